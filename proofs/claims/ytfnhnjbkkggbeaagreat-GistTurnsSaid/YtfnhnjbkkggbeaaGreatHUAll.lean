/-Plain laws of the reference's numbers-/
import Derived.Test.YtfnhnjbkkggbeaaGreatHRatio
import Derived.Deep.OwnRows
set_option linter.unusedVariables false
set_option linter.unusedSimpArgs false
set_option maxHeartbeats 4000000
set_option maxRecDepth 20000
namespace Pg
def valF (f:Nat->Nat):Nat->Nat
 | 0=>0
 | n+1=>valF f n+f n*4294967296 ^ n
def updF (f:Nat->Nat) (j v:Nat):Nat->Nat:=fun i=>if i=j then v else f i
theorem qtr (f:Nat->Nat) (j v:Nat):∀n,valF (updF f j v) n+(if j<n then f j*4294967296 ^ j else 0)=valF f n+(if j<n then v*4294967296 ^ j else 0):=by
 intro n
 induction n with
 | zero=>simp [valF]
 | succ n ih=>
   rw [valF,valF]
   rcases Nat.lt_trichotomy j n with h|h|h
   · have e:updF f j v n=f n:=by unfold updF;rw [if_neg oQ]
     rw [e,if_pos oQ,if_pos oQ]
     rw [if_pos h,if_pos h] at ih
     omega
   · subst h
     have e:updF f j v j=v:=by unfold updF;rw [if_pos rfl]
     rw [e,if_pos oQ,if_pos oQ]
     rw [if_neg oQ,if_neg oQ] at ih
     omega
   · have e:updF f j v n=f n:=by unfold updF;rw [if_neg oQ]
     rw [e,if_neg oQ,if_neg oQ]
     rw [if_neg oQ,if_neg oQ] at ih
     omega
theorem qxp (n:Nat):valF (fun _=>0) n=0:=by
 induction n with
 | zero=>rfl
 | succ n ih=>rw [valF,ih];simp
theorem q2a (i k:Nat):(4294967296:Nat) ^ (i+k)=4294967296 ^ i*4294967296 ^ k:=Nat.pow_add _ _ _
structure TmI (a b f:Nat->Nat) (N n i k c:Nat):Prop where
 val:valF f N+c*4294967296 ^ (i+k)=valF a i*valF b n+a i*valF b k*4294967296 ^ i
 small:∀j,f j<4294967296
 none:∀j,i+n<=j->f j=0
 carry:c<4294967296
structure TmO (a b f:Nat->Nat) (N n i:Nat):Prop where
 val:valF f N=valF a i*valF b n
 small:∀j,f j<4294967296
 none:∀j,i+n<=j->f j=0
theorem q1g (a b:Nat->Nat) (N n:Nat):TmO a b (fun _=>0) N n 0:=⟨by rw [qxp];simp [valF],fun _=>by decide,fun _ _=>rfl⟩
theorem q6e {a b f:Nat->Nat} {N n i:Nat} (h:TmO a b f N n i):TmI a b f N n i 0 0:=⟨by rw [h.val];simp [valF],h.small,h.none,by decide⟩
theorem qtx {a b f:Nat->Nat} {N n i k c:Nat} (ha:a i<4294967296) (hb:b k<4294967296) (h:TmI a b f N n i k c):a i*b k+f (i+k)+c<18446744073709551616/\a i*b k<18446744073709551616/\a i*b k+f (i+k)<18446744073709551616:=by
 have h1:=h.small (i+k);have h2:=h.carry;have h3:a i*b k<=4294967295*4294967295:=Nat.mul_le_mul oQ oQ
 omega
theorem q4r {a b f:Nat->Nat} {N n i k c:Nat} (ha:a i<4294967296) (hb:b k<4294967296) (hk:k<n) (hN:i+n<N) (h:TmI a b f N n i k c):
 TmI a b (updF f (i+k) ((a i*b k+f (i+k)+c)%4294967296)) N n i (k+1) ((a i*b k+f (i+k)+c)/4294967296):=by
 obtain⟨b1,_⟩:=qtx ha hb h;refine⟨?_,?_,?_,by omega⟩
 · have hu:=qtr f (i+k) ((a i*b k+f (i+k)+c)%4294967296) N
   rw [if_pos oQ,if_pos oQ] at hu
   have hv:=h.val
   rw [show i+(k+1)=(i+k)+1 by omega,Nat.pow_succ,valF]
   have hd:=Nat.div_add_mod (a i*b k+f (i+k)+c) 4294967296;generalize (a i*b k+f (i+k)+c)%4294967296=r at*;generalize (a i*b k+f (i+k)+c)/4294967296=q at*
   rw [q2a] at*
   generalize valF (updF f (i+k) r) N=V' at*;generalize valF f N=V at*;generalize valF b k=Bk at*;generalize valF a i*valF b n=X at*;generalize (4294967296:Nat) ^ i=Pi at*;generalize (4294967296:Nat) ^ k=Pk at*;generalize f (i+k)=F at*;generalize a i=ai at*;generalize b k=bk at*;have e:(4294967296*q+r)*(Pi*Pk)=(ai*bk+F+c)*(Pi*Pk):=by rw [hd]
   grind
 · intro j
   unfold updF
   split
   · omega
   · exact h.small j
 · intro j hj
   unfold updF
   rw [if_neg oQ]
   exact h.none j hj
theorem q6f {a b f:Nat->Nat} {N n i c:Nat} (hN:i+n<N) (h:TmI a b f N n i n c):TmO a b (updF f (i+n) c) N n (i+1):=by
 refine⟨?_,?_,?_⟩
 · have hu:=qtr f (i+n) c N
   rw [if_pos hN,if_pos hN,h.none (i+n) (zhy _)] at hu;have hv:=h.val
   rw [valF,Nat.add_mul]
   rw [Nat.zero_mul,Nat.add_zero] at hu
   rw [hu,hv]
   grind
 · intro j
   unfold updF
   split
   · exact h.carry
   · exact h.small j
 · intro j hj
   unfold updF
   rw [if_neg oQ]
   exact h.none j oQ
structure DvI (n d j q r:Nat):Prop where
 quo:q=n/2 ^ j/d*2 ^ j
 rem:r=n/2 ^ j%d
theorem q3i (n d:Nat) (hn:n<340282366920938463463374607431768211456) (hd:0<d):DvI n d 128 0 0:=by
 have:n/2 ^ 128=0:=Nat.div_eq_of_lt (by simpa using hn)
 exact⟨by rw [this];simp,by rw [this];simp⟩
theorem q7f {n d q r:Nat} (h:DvI n d 0 q r):q=n/d/\r=n%d:=by
 have h1:=h.quo;have h2:=h.rem
 simp at h1 h2
 exact⟨h1,h2⟩
theorem q0b {n d i q r:Nat} (hd:0<d) (h:DvI n d (i+1) q r):
 2*r+n/2 ^ i%2<2*d/\(d<=2*r+n/2 ^ i%2->DvI n d i (q+2 ^ i) (2*r+n/2 ^ i%2-d))/\(2*r+n/2 ^ i%2<d->DvI n d i q (2*r+n/2 ^ i%2)):=by
 have h1:=h.quo;have h2:=h.rem;have e:n/2 ^ (i+1)=n/2 ^ i/2:=by rw [Nat.pow_succ,Nat.div_div_eq_div_mul]
 rw [e] at h1 h2;have hp:2 ^ (i+1)=2*2 ^ i:=by rw [Nat.pow_succ,Nat.mul_comm]
 rw [hp] at h1;have D:∀q' r',q' =n/2 ^ i/d*2 ^ i->r' =n/2 ^ i%d->DvI n d i q' r' :=fun _ _ a b=>⟨a,b⟩
 generalize n/2 ^ i=m at*;have hm:=Nat.mod_lt (m/2) hd;have hdm:=Nat.div_add_mod (m/2) d;have hm2:m=2*(m/2)+m%2:=oQ
 have hb:m%2<2:=Nat.mod_lt _ dE
 rw [<-h2] at hm hdm;generalize m/2/d=Q at*;generalize m/2=M at*;generalize m%2=b at*;subst hm2;have key:2*M+b=(2*r+b)+d*(2*Q):=by rw [<-hdm];grind
 refine⟨by omega,fun hge=>D _ _ ?_ ?_,fun hlt=>D _ _ ?_ ?_⟩
 · have:(2*M+b)/d=2*Q+1:=by
    rw [key,Nat.add_mul_div_left _ _ hd,Nat.div_eq_of_lt_le (k:=1) oQ oQ];omega
   rw [this,h1];grind
 · rw [key,Nat.add_mul_mod_self_left,Nat.mod_eq_sub_mod hge,zzy oQ]
 · have:(2*M+b)/d=2*Q:=by
    rw [key,Nat.add_mul_div_left _ _ hd,Nat.div_eq_of_lt hlt];omega
   rw [this,h1];grind
 · rw [key,Nat.add_mul_mod_self_left,zzy hlt]
theorem q7s (n i:Nat) (hi:64<=i):n/2 ^ i%2=n/18446744073709551616/2 ^ (i-64)%2:=by
 rw [Nat.div_div_eq_div_mul,show (18446744073709551616:Nat)=2 ^ 64 by decide,<-Nat.pow_add,show 64+(i-64)=i by omega]
theorem q7r (n i:Nat) (hi:i<64):n/2 ^ i%2=n%18446744073709551616/2 ^ i%2:=by
 have h:n=n/18446744073709551616*18446744073709551616+n%18446744073709551616:=oQ
 have hp:18446744073709551616=2 ^ i*(2*2 ^ (63-i)):=by
  rw [show 2*2 ^ (63-i)=2 ^ (64-i) by rw [<-Nat.pow_succ'];congr 1;omega,<-Nat.pow_add,show i+(64-i)=64 by omega]
 conv=>lhs;rw [h]
 generalize n/18446744073709551616=A at*;generalize n%18446744073709551616=L at*;have hpos:0<2 ^ i:=Nat.pow_pos dE
 rw [hp,show A*(2 ^ i*(2*2 ^ (63-i)))+L=L+2 ^ i*(A*(2*2 ^ (63-i))) by grind,Nat.add_mul_div_left _ _ hpos]
 rw [show A*(2*2 ^ (63-i))=2*(A*2 ^ (63-i)) by grind]
 omega
theorem q6r (Q i:Nat) (hi:64<=i):(Q*2 ^ (i+1)+2 ^ i)/18446744073709551616=Q*2 ^ (i+1-64)+2 ^ (i-64)/\(Q*2 ^ (i+1)+2 ^ i)%18446744073709551616=0/\Q*2 ^ (i+1)/18446744073709551616=Q*2 ^ (i+1-64)/\Q*2 ^ (i+1)%18446744073709551616=0:=by
 have e1:2 ^ (i+1)=2 ^ (i+1-64)*18446744073709551616:=by
  rw [show (18446744073709551616:Nat)=2 ^ 64 by decide,<-Nat.pow_add,show i+1-64+64=i+1 by omega]
 have e2:2 ^ i=2 ^ (i-64)*18446744073709551616:=by
  rw [show (18446744073709551616:Nat)=2 ^ 64 by decide,<-Nat.pow_add,show i-64+64=i by omega]
 rw [e1,e2,<-Nat.mul_assoc]
 generalize Q*2 ^ (i+1-64)=X;generalize 2 ^ (i-64)=Y
 omega
theorem q6q (Q i:Nat) (hi:i<64):(Q*2 ^ (i+1)+2 ^ i)/18446744073709551616=Q*2 ^ (i+1)/18446744073709551616/\(Q*2 ^ (i+1)+2 ^ i)%18446744073709551616=Q*2 ^ (i+1)%18446744073709551616+2 ^ i/\∃K,Q*2 ^ (i+1)%18446744073709551616=K*2 ^ (i+1):=by
 have hp:18446744073709551616=2 ^ (i+1)*2 ^ (63-i):=by rw [<-Nat.pow_add,show i+1+(63-i)=64 by omega]
 have hm:Q*2 ^ (i+1)%18446744073709551616=Q%2 ^ (63-i)*2 ^ (i+1):=by
  rw [hp,Nat.mul_comm Q,Nat.mul_mod_mul_left,Nat.mul_comm]
 have hlt:Q%2 ^ (63-i)+1<=2 ^ (63-i):=Nat.mod_lt _ (Nat.pow_pos dE)
 have hle:(Q%2 ^ (63-i)+1)*2 ^ (i+1)<=18446744073709551616:=by
  rw [hp,Nat.mul_comm (2 ^ (i+1))]
  exact zuy _ hlt
 rw [Nat.add_mul,Nat.one_mul,<-hm] at hle;have hpp:2 ^ (i+1)=2*2 ^ i:=by rw [Nat.pow_succ,Nat.mul_comm]
 have hpos:0<2 ^ i:=Nat.pow_pos dE
 refine⟨?_,?_,_,hm⟩
 · generalize Q*2 ^ (i+1)=X at*
   generalize 2 ^ i=Y at*
   omega
 · generalize Q*2 ^ (i+1)=X at*
   generalize 2 ^ i=Y at*
   omega
end Pg
namespace Go.Proofs.YtfnhnjbkkggbeaaGreat
open Go.RowKit Pg
def NatF (w:World) (B:Nat) (A:Option Addr) (n:Nat) (f:Nat->Nat):Prop:=
 0<n->∃b off,A=some ⟨b,off,none⟩/\b<B/\∀k,k<n->w.cell? ⟨b,off+k,none⟩=some (.int .u64 (f k))
theorem NatF.below {w w' :World} {B n:Nat} {A:Option Addr} {f:Nat->Nat} (h:NatF w B A n f) (hb:Below B w w'):NatF w' B A n f:=fun hn=>by
 obtain⟨b,off,e,hlt,hc⟩:=h hn;exact⟨b,off,e,hlt,fun k hk=>(hb.cell (p:=⟨b,off+k,none⟩) hlt).trans (hc k hk)⟩
theorem NatF.up {w:World} {B B' n:Nat} {A:Option Addr} {f:Nat->Nat} (h:NatF w B A n f) (hB:B<=B'):NatF w B' A n f:=fun hn=>by
 obtain⟨b,off,e,hlt,hc⟩:=h hn;exact⟨b,off,e,by omega,hc⟩
theorem qni {w:World} {g:Nat} {t:TypeId} {cs:Array Value} {n:Nat} (f:Nat->Nat) (hg:Blk w g t cs) (hc:∀k,k<n->cs[k]? =some (.int .u64 (f k))):NatF w w.heap.size (some ⟨g,0,none⟩) n f:=
 fun _=>⟨g,0,rfl,hg.lt,fun k hk=>by rw [Nat.zero_add,hg.cell];exact hc k hk⟩
def qgl (f:Nat->Nat) (j:Nat):Nat:=if j%2=0 then f (j/2)%4294967296 else f (j/2)/4294967296
def qc8 (f:Nat->Nat) (n:Nat):List Value:=(List.range n).map fun j=> .int .u64 (f j)
theorem qi0 {f:Nat->Nat} {n k:Nat} (h:k<n):(qc8 f n)[k]? =some (.int .u64 (f k)):=by simp [qc8,h]
theorem qwa (f:Nat->Nat) (k:Nat):qc8 f (2*(k+1))=qc8 f (2*k)++ [.int .u64 (f (2*k)),.int .u64 (f (2*k+1))]:=by
 unfold qc8
 rw [show 2*(k+1)=2*k+1+1 by omega,List.range_succ,List.range_succ]
 simp
theorem q2r {w:World} {base:Nat} {e:TypeId} {v:Value} {n:Nat} {f:Nat->Nat} (h:w.ownsRow base e 1 v n (qc8 f n)):
 ∃A c,v=.slice A n c/\NatF w w.heap.size A n f:=by
 obtain⟨h1,⟨rfl,rfl⟩|⟨g,cap,cur,rfl,hg,hh,hc⟩⟩:=h
 · exact⟨none,0,rfl,fun h=>absurd h oQ⟩
 · refine⟨_,cap,rfl,fun hn=>⟨g,0,rfl,lt_of_block hh,fun k hk=> ?_⟩⟩
   have hown:w.ownsRow base e 1 (.slice (some ⟨g,0,none⟩) n cap) n (qc8 f n):=⟨h1,.inr ⟨g,cap,cur,rfl,hg,hh,hc⟩⟩
   rw [Nat.zero_add,hown.cellAt k oQ]
   exact qi0 hk
theorem Tryz.infoU64:(Tryz.prog.info? 69).map (fun i=>(i.zero,i.size,i.bytes))=some (some (.int .u64 0),1,8):=by kernel_rfl
theorem q6c {w:World} {x y:Value} {t:TypeId}:∀(j:Nat) (v:Value),[x,y][j]? =some v->(w.alloc (.cells #[x,y] t)).drew.cell? ((⟨w.heap.size,0,none⟩:Addr).add j)=some v:=by
 intro j v hj
 match j,hj with
 | 0,hj=>simp at hj;subst hj;simp [Addr.add]
 | 1,hj=>simp at hj;subst hj;simp [Addr.add]
theorem q4p {x y:Nat}:∀v∈ [Value.int .u64 x,.int .u64 y],v.oneCell' =true:=by
 intro v hv;simp only [List.mem_cons,List.not_mem_nil,or_false] at hv
 rcases hv with rfl|rfl<;>rfl
theorem qt5 {a b:Int} (h:a=b):Ending.returned (.int .u64 a)=Ending.returned (.int .u64 b):=by rw [h]
theorem qxn (B n c:Nat) (A:Option Addr) (f:Nat->Nat) (w:World) (hl:NatF w B A n f) (hB:B<=w.heap.size) (hn:n<=1000) (hf:∀k,k<n->f k<18446744073709551616):
 C9 224 #[.slice A n c] w (fun e w' =>∃A' c',e=.returned (.slice A' (2*n) c')/\NatF w' w'.heap.size A' (2*n) (qgl f)/\Below w.heap.size w w'):=by
 have HFb:=hdQ hf;clear hf;obtain⟨i0,hi,iz0,iz1,iz2⟩:=info_parts Tryz.infoU64
 go_enter Tryz.func224,Tryz.ntmps224
 go_wp2
 go_loopw [3,4] (fun s i wr=>∃k:Nat,k<=n/\i=.int .i64 k/\wr.ownsRow w.heap.size 69 1 s (2*k) (qc8 (qgl f) (2*k))/\Below w.heap.size w wr) (fun _ i _=>n-(intOf i).toNat)
 case atStart=>exact ⟨0,zly _,rfl,World.ownsRow_nil _ _ _ _,Below.refl _ _⟩
 case round=>
  obtain⟨k,hk,rfl,hown,hb⟩:=hrel
  by_cases hlt:k<n
  · obtain⟨b,off,rfl,hab,hc⟩:=(hl.below (hb.mono hB)) oQ
    have c0:=hc k hlt;clear hc;have hbs:=hb.size;have hbw:b<wr.heap.size:=oQ
    have hbw9:b<w.heap.size:=oQ
    have hk0:(k:Int)<(n:Int):=oQ
    have hfk:=HFb.out k hlt
    have HW:Hid (qc8 (qgl f) (2*(k+1))=qc8 (qgl f) (2*k)++ [.int .u64 ((f k%4294967296:Nat):Int),.int .u64 ((f k/4294967296:Nat):Int)]):=by
     unfold Hid
     rw [qwa]
     unfold qgl
     rw [if_pos oQ,if_neg oQ,show 2*k/2=k by omega,show (2*k+1)/2=k by omega]
    obtain⟨x,ex⟩:∃x,f k=x:=⟨_,rfl⟩;rw [ex] at c0 hfk HW;have e1:=Mul64.maskN x hfk;have e2:=Mul64.divN x;obtain⟨lo,elo⟩:∃y,x%4294967296=y:=⟨_,rfl⟩;obtain⟨hi',ehi⟩:∃y,x/4294967296=y:=⟨_,rfl⟩;rw [elo] at e1 HW;rw [ehi] at e2 HW;clear elo ehi ex hfk;have hb5:Below w.heap.size wr (wr.alloc (.cells #[.int .u64 lo,.int .u64 hi'] 69)):=Below.mono (B:=wr.heap.size) bel oQ
    go_wp2_with fail;refine qbt (w.heap.size) [0,1,2,3,4,5,6,7,8,9,10,11,12,13] kr kr pq ?_
    simp only [zdy,zey,ldz,lds,bare,qaj,lcz,lcs,zay]
    repeat' ((try simp only [Act.put,lsi,lsz,lss]);first|(refine lqy ?_)|(refine qab qaa rfl (fun K hK=> ?_);(refine wp_append_own _ _ _ 287 rfl w.heap.size 69 i0 (.int .u64 0) 1 8 Tryz.underlying287 hi iz0 iz1 iz2 rfl dE _ _ _ rfl (qgv (hown.alloc _)) ⟨wr.heap.size,0,none⟩ 2 2 [.int .u64 lo,.int .u64 hi'] rfl rfl ?_ ?_ ?_ ?_ ?_ ?_);(focus(exact q6c));(focus(exact q4p));(focus(unfold maxLen;omega));(focus omega);(focus(simp;omega));intro v' w2 hown' hgrow _;have hlt' :=hown.lt;have hb2:Below w.heap.size w w2:=(Below.grown (w:=(wr.alloc _).drew) bel hgrow (by simp;omega) (fun j e=>by have:=(hlt' j e).1;omega));have hb3:Below w.heap.size ((wr.alloc (.cells #[.int .u64 lo,.int .u64 hi'] 69)).drew) w2:=(Below.grown (w:=(wr.alloc (.cells #[.int .u64 lo,.int .u64 hi'] 69)).drew) (Below.refl _ _) hgrow (by simp;omega) (fun j e=>(hlt' j e).1));have hb4:Below w.heap.size wr w2:=(Below.trans bel hb3);refine hK.out _ _ (by first|with_reducible exact qdm|with_reducible exact Below.drew qdm|exact bel) ?_;clear hK K)|(refine qab qaa rfl (fun K hK=> ?_);go_simp;((first|fail  | skip)<;>(refine hK.out _ _ (by first|with_reducible exact qdm|with_reducible exact Below.drew qdm|exact bel) ?_;clear hK K))))
    (all_goals try simp only [Act.put,lsi,lsz,lss]);all_goals(refine qad ?_)
    have hown2:w2.ownsRow w.heap.size 69 1 v' (2*(k+1)) (qc8 (qgl f) (2*(k+1))):=by rw [HW.out];exact hown'
    clear hown' hgrow hown hlt' hb3 hb4 hb5 c0 HW;go_wp2
    go_roundw
    case rel=>exact ⟨k+1,by omega,by go_num,hown2,hb2⟩
    case measure=>simp [intOf];omega
  · have hkn:k=n:=oQ
    subst hkn;obtain⟨A2,c2,rfl,hfr⟩:=q2r hown;have HR:=hdQ hfr;clear hown hfr HFb;go_wp2;go_ret;exact⟨A2,c2,rfl,HR.out,hb⟩
theorem quv (B n c k:Nat) (A:Option Addr) (f:Nat->Nat) (w:World) (hl:NatF w B A n f) (hB:B<=w.heap.size) (hn:n<=1000) (hk:2*k+1<n) (hf:∀k,k<n->f k<4294967296):
 C9 225 #[.slice A n c,.int .i64 k] w (Ret w (.int .u64 ((f (2*k)+f (2*k+1)*4294967296:Nat):Int))):=by
 obtain⟨b,off,rfl,hab,hc⟩:=hl oQ
 have c0:=hc (2*k) oQ
 have c1:=hc (2*k+1) hk;have x0:=hf (2*k) oQ
 have x1:=hf (2*k+1) hk;have hbw:b<w.heap.size:=oQ
 obtain⟨m,em⟩:∃m,2*k=m:=⟨_,rfl⟩
 rw [em] at c0 c1 x0 x1 hk ⊢
 have k1:IntKind.i64.wrap (2*(k:Int))=(m:Int):=by rw [IntKind.wrap_i64];omega
 have k2:IntKind.i64.wrap ((m:Int)+1)=(m:Int)+1:=by rw [IntKind.wrap_i64];omega
 have k3:(m:Int)<(n:Int):=oQ
 have k5:m<n:=oQ
 have k7:(0:Int)<=(m:Int)+1:=oQ
 have k6:m+1<n:=oQ
 have k4:(m:Int)+1<(n:Int):=oQ
 obtain⟨u,eu⟩:∃u,f m=u:=⟨_,rfl⟩;obtain⟨v,ev⟩:∃u,f (m+1)=u:=⟨_,rfl⟩;rw [eu] at c0 x0;rw [ev] at c1 x1
 rw [eu,ev]
 have q1:IntKind.u64.wrap ((v:Int)*4294967296)=(v:Int)*4294967296:=by rw [IntKind.wrap_u64];omega
 have q2:bits .or .u64 (u:Int) ((v:Int)*4294967296)=((u+v*4294967296:Nat):Int):=by
  rw [u64_or32 (u:Int) ((v:Int)*4294967296) oQ oQ oQ oQ oQ]
  omega
 have Q2:=hdQ q2;clear q2 hc hf hl
 go_enter Tryz.func225,Tryz.ntmps225
 go_wp2_with fail;refine qac kr kr pq ?_
 simp only [zdy,zey,ldz,lds,bare,qaj,lcz,lcs,zay]
 repeat' ((try simp only [Act.put,lsi,lsz,lss]);first|(refine lqx ?_)|(refine qab qaa rfl (fun K hK=> ?_);go_simp;((first|fail|skip)<;>(refine hK.out _ _ bel ?_;clear hK K))))
 (all_goals try simp only [Act.put,lsi,lsz,lss]);all_goals(refine qad ?_)
 go_wp2;go_ret;exact⟨qt5 Q2.out,bel⟩
theorem qwe (N:Nat):madeCells #[Value.int .u64 0] N=(qc8 (fun _=>0) N).toArray:=by
 apply Array.ext_getElem?
 intro j
 by_cases hj:j<N
 · simp [madeCells,qc8,hj,Nat.mod_one]
 · simp [madeCells,qc8,hj]
theorem qnh (f:Nat->Nat) (N j v:Nat):(qc8 f N).toArray.setIfInBounds j (.int .u64 v)=(qc8 (updF f j v) N).toArray:=by
 apply Array.ext_getElem?
 intro k
 rw [Array.getElem?_setIfInBounds]
 by_cases hk:k<N
 · by_cases e:j=k
   · subst e
     simp [qc8,hk,updF]
   · have e' :¬ k=j:=fun h=>e h.symm
     simp [qc8,hk,updF,e,e']
 · by_cases e:j=k
   · subst e
     simp [qc8,hk]
   · simp [qc8,hk,e]
theorem qxw (B n c n' c' :Nat) (A A' :Option Addr) (a b:Nat->Nat) (w:World) (ha:NatF w B A n a) (hb:NatF w B A' n' b) (hB:B<=w.heap.size) (hn:0<n) (hn2:n<=1000) (hn' :0<n') (hn2' :n' <=1000) (sa:∀k,k<n->a k<4294967296) (sb:∀k,k<n' ->b k<4294967296):
 C9 223 #[.slice A n c,.slice A' n' c'] w (fun e w' =>∃g c2 f,e=.returned (.slice (some ⟨g,0,none⟩) (n+n') c2)/\NatF w' w'.heap.size (some ⟨g,0,none⟩) (n+n') f/\valF f (n+n')=valF a n*valF b n' /\(∀j,f j<4294967296)/\Below w.heap.size w w'):=by
 obtain⟨N,hN⟩:∃N,n+n' =N:=⟨_,rfl⟩;have eN:(n:Int)+(n' :Int)=(N:Int):=oQ
 rw [hN]
 have HMk:∀w,(Instr.makeSlice 287 (.int .i64 (N:Int)) (.int .i64 (N:Int))).run Tryz.prog w=.ok (.slice (some ⟨w.heap.size,0,none⟩) N N) (w.alloc (.cells (madeCells #[.int .u64 0] N) 69)):=fun w=>
  run_make_row' _ _ (.int .u64 0) 8 Tryz.underlying287 Tryz.infoU64 rfl .i64 .i64 N oQ oQ w
 have HSa:=hdQ sa;have HSb:=hdQ sb;clear sa sb;obtain⟨ba,oa,rfl,hba,hca⟩:=ha hn;obtain⟨bb,ob,rfl,hbb,hcb⟩:=hb hn';have HCa:=hdQ hca;have HCb:=hdQ hcb;clear hca hcb ha hb
 go_enter Tryz.func223,Tryz.ntmps223
 go_wp2_with fail
 have hG0:Blk (w.alloc (.cells (madeCells #[.int .u64 0] N) 69)) w.heap.size 69 (qc8 (fun _=>0) N).toArray:=by
  rw [qwe]
  exact Blk.new rfl rfl
 have hb0:Below w.heap.size w (w.alloc (.cells (madeCells #[.int .u64 0] N) 69)):=bel
 go_loopw [6] (fun i wr=>∃(k:Nat) (f:Nat->Nat),k<=n/\i=.int .i64 k/\Blk wr w.heap.size 69 (qc8 f N).toArray/\Hid (TmO a b f N n' k)/\Below w.heap.size w wr) (fun i _=>n-(intOf i).toNat)
 case atStart=>exact ⟨0,fun _=>0,zly _,rfl,hG0,q1g a b N n',hb0⟩
 case round=>
  clear hG0 hb0;obtain⟨i,f0,hi,rfl,hG,hO,hb⟩:=hrel
  by_cases hlt:i<n
  · have hi0:(i:Int)<(n:Int):=oQ
    go_wp2_with fail
    go_loopw [7,8] (fun cv kv wr=>∃(k c:Nat) (f:Nat->Nat),k<=n' /\kv=.int .i64 k/\cv=.int .u64 c/\Blk wr w.heap.size 69 (qc8 f N).toArray/\Hid (TmI a b f N n' i k c)/\Below w.heap.size w wr) (fun _ kv _=>n' - (intOf kv).toNat)
    case atStart=>exact ⟨0,0,f0,zly _,rfl,rfl,hG,q6e hO.out,hb⟩
    case round=>
     clear hG hO hb;obtain⟨k,c,f,hk,rfl,rfl,hG,hI,hb⟩:=hrel;have lG:=hG.lt;have fG:=hG.frozen
     by_cases hlt2:k<n'
     · have hk0:(k:Int)<(n' :Int):=oQ
       have haw:ba<w.heap.size:=oQ
       have hbw:bb<w.heap.size:=oQ
       have c0:=(hb.cell (p:=⟨ba,oa+i,none⟩) haw).trans (HCa.out i hlt);have c1:=(hb.cell (p:=⟨bb,ob+k,none⟩) hbw).trans (HCb.out k hlt2);have haw2:ba<wr.heap.size:=oQ
       have hbw2:bb<wr.heap.size:=oQ
       have hne1:ba≠w.heap.size:=oQ
       have hne2:bb≠w.heap.size:=oQ
       have hsN:i+k<N:=oQ
       have c2:=hG.cell (i+k);rw [lta,qi0 hsN] at c2;have hst:=q4r (HSa.out i hlt) (HSb.out k hlt2) hlt2 (show i+n' <N by omega) hI.out
       obtain⟨t1,t2,t3⟩:=qtx (HSa.out i hlt) (HSb.out k hlt2) hI.out;obtain⟨x,ex⟩:∃z,a i=z:=⟨_,rfl⟩;obtain⟨y,ey⟩:∃z,b k=z:=⟨_,rfl⟩;obtain⟨z,ez⟩:∃u,f (i+k)=u:=⟨_,rfl⟩;rw [ex] at c0 hst t1 t2 t3;rw [ey] at c1 hst t1 t2 t3;rw [ez] at c2 hst t1 t3;obtain⟨s,es⟩:∃u,i+k=u:=⟨_,rfl⟩;rw [es] at c2 hst hsN;obtain⟨P,eP⟩:∃u,x*y=u:=⟨_,rfl⟩;rw [eP] at hst t1 t2 t3;obtain⟨Q,eQ⟩:∃u,P+z=u:=⟨_,rfl⟩;rw [eQ] at hst t1 t3;obtain⟨V,eV⟩:∃u,Q+c=u:=⟨_,rfl⟩;rw [eV] at hst t1;have w1:IntKind.u64.wrap ((x:Int)*(y:Int))=(P:Int):=by rw [<-Int.natCast_mul,eP];exact qau _ t2
       have w2:IntKind.u64.wrap ((P:Int)+(z:Int))=(Q:Int):=by rw [<-Int.natCast_add,eQ];exact qau _ t3
       have w3:IntKind.u64.wrap ((Q:Int)+(c:Int))=(V:Int):=by rw [<-Int.natCast_add,eV];exact qau _ t1
       have w4:IntKind.i64.wrap ((i:Int)+(k:Int))=(s:Int):=by rw [IntKind.wrap_i64];omega
       have w5:=Mul64.maskN V t1;have w6:=Mul64.divN V;have hs0:(s:Int)<(N:Int):=oQ
       obtain⟨lo,elo⟩:∃u,V%4294967296=u:=⟨_,rfl⟩;obtain⟨hi',ehi⟩:∃u,V/4294967296=u:=⟨_,rfl⟩;rw [elo] at hst w5;rw [ehi] at hst w6;have HST:=hdQ hst;clear hst ex ey ez es eP eQ eV elo ehi t1 t2 t3;go_wp2_with fail;refine qac kr kr pq ?_
       simp only [zdy,zey,ldz,lds,bare,qaj,lcz,lcs,zay]
       repeat' ((try simp only [Act.put,lsi,lsz,lss]);first|(refine lqx ?_)|(refine qab qaa rfl (fun K hK=> ?_);go_simp;((first|fail|skip)<;>(refine hK.out _ _ bel ?_;clear hK K))))
       (all_goals try simp only [Act.put,lsi,lsz,lss]);all_goals(refine qad ?_)
       go_wp2
       go_roundw
       case rel=>exact ⟨k+1,hi',updF f s lo,by omega,by go_num,rfl,(hG.set_ s _).eq_ (qnh f N s lo),HST.out,bel⟩
       case measure=>simp [intOf];omega
     · have hkn:k=n' :=oQ
       subst hkn;have hend:=q6f (show i+k<N by omega) hI.out
       have hsN:i+k<N:=oQ
       obtain⟨s,es⟩:∃u,i+k=u:=⟨_,rfl⟩;rw [es] at hend hsN;have w4:IntKind.i64.wrap ((i:Int)+(k:Int))=(s:Int):=by rw [IntKind.wrap_i64];omega
       have hs0:(s:Int)<(N:Int):=oQ
       have c2:=hG.cell s;rw [lta,qi0 hsN] at c2;have HE:=hdQ hend;clear hend es;go_wp2
       go_roundw
       case rel=>exact ⟨i+1,updF f s c,by omega,by go_num,(hG.set_ s _).eq_ (qnh f N s c),HE.out,bel⟩
       case measure=>simp [intOf];omega
  · have hin:i=n:=oQ
    subst hin;have HV:=hdQ hO.out.val;have HSm:=hdQ hO.out.small;have HNf:Hid (NatF wr wr.heap.size (some ⟨w.heap.size,0,none⟩) N f0):=qni f0 hG (fun k hk=>by rw [lta];exact qi0 hk)
    clear hO hG;go_wp2;go_ret;exact⟨_,_,f0,rfl,HNf.out,HV.out,HSm.out,hb⟩
theorem q30 (x g:Nat) (w:World) (hx:x<18446744073709551616) (hg:w.heap[g]? =some (.cells #[.int .u64 x] 69 (0,0))):
 C9 224 #[.slice (some ⟨g,0,none⟩) 1 1] w (fun e w' =>∃A' c',e=.returned (.slice A' 2 c')/\NatF w' w'.heap.size A' 2 (qgl fun _=>x)/\Below w.heap.size w w'):=
 qxn w.heap.size 1 1 _ (fun _=>x) w (qni _ hg (by intro k hk;match k,hk with|0,_=>rfl)) (zhy _) dE (fun _ _=>hx)
theorem qj2 {f:Nat->Nat} {n:Nat} (h:∀k,k<n->f k<18446744073709551616):∀j,j<2*n->qgl f j<4294967296:=by
 intro j hj;unfold qgl;have:=h (j/2) oQ
 split<;>omega
theorem qky (x:Nat):valF (qgl fun _=>x) 2=x:=by
 simp [valF,qgl]
 omega
theorem q5n (B n c:Nat) (A:Option Addr) (f:Nat->Nat) (w:World) (hl:NatF w B A n f) (hB:B<=w.heap.size) (hn:n<=1000) (hk:1<n) (hf:∀k,k<n->f k<4294967296):
 C9 225 #[.slice A n c,.int .i64 0] w (Ret w (.int .u64 ((f 0+f 1*4294967296:Nat):Int))):=quv B n c 0 A f w hl hB hn hk hf
theorem q27 (B n c:Nat) (A:Option Addr) (f:Nat->Nat) (w:World) (hl:NatF w B A n f) (hB:B<=w.heap.size) (hn:n<=1000) (hk:3<n) (hf:∀k,k<n->f k<4294967296):
 C9 225 #[.slice A n c,.int .i64 1] w (Ret w (.int .u64 ((f 2+f 3*4294967296:Nat):Int))):=quv B n c 1 A f w hl hB hn hk hf
theorem val4 {f:Nat->Nat} {v:Nat} (h:valF f 4=v) (hs:∀j,f j<4294967296):f 0+f 1*4294967296=v%18446744073709551616/\f 2+f 3*4294967296=v/18446744073709551616:=by
 simp only [valF] at h;have h0:=hs 0;have h1:=hs 1;have h2:=hs 2;have h3:=hs 3
 omega
theorem qt7 (a b:Nat) (ha:a<18446744073709551616) (hb:b<18446744073709551616) (w:World):
 C9 219 #[.int .u64 a,.int .u64 b] w (Ret w (uV (a*b))):=by
 have HA:=hdQ (fun w g hg=>q30 a g w ha hg)
 have HB:=hdQ (fun w g hg=>q30 b g w hb hg)
 have HSa:=hdQ (qj2 (f:=fun _=>a) (n:=1) (fun _ _=>ha))
 have HSb:=hdQ (qj2 (f:=fun _=>b) (n:=1) (fun _ _=>hb))
 simp only [uV]
 obtain⟨Hi,eH⟩:∃z,a*b/18446744073709551616=z:=⟨_,rfl⟩;obtain⟨Lo,eL⟩:∃z,a*b%18446744073709551616=z:=⟨_,rfl⟩
 rw [eH,eL]
 have EH:=hdQ eH;have EL:=hdQ eL;clear eH eL ha hb
 go_enter Tryz.func219,Tryz.ntmps219
 go_wp2_with (first|(go_at_call 224;have _h:=hza;refine(HB.out _ _ ?_).mono ?_;exact qan sI;rintro e wb ⟨Ab,cb,rfl,hNb,hbb⟩;have hzb:=hbb.size;(try simp at hzb))|(go_at_call 224;refine(HA.out _ _ ?_).mono ?_;exact qan sI;rintro e wa ⟨Aa,ca,rfl,hNa,hba⟩;have hza:=hba.size;(try simp at hza))|(go_at_call 223;refine(qxw wb.heap.size 2 ca 2 cb Aa Ab _ _ wb ((hNa.below bel).up oQ) hNb (zhy _) dE dE dE dE HSa.out HSb.out).mono ?_;rintro e wt ⟨gt,ct,f,rfl,hNt,hV,hS,hbt⟩;have hzt:=hbt.size))
 rw [qky,qky] at hV;obtain⟨j0,j1⟩:=val4 hV hS;rw [EL.out] at j0;rw [EH.out] at j1
 have HJ1:Hid (∀w',Below wt.heap.size wt w' ->C9 225 #[.slice (some ⟨gt,0,none⟩) 4 ct,.int .i64 1] w' (Ret w' (.int .u64 Hi))):=fun w' hb=>by
  have h:=q27 wt.heap.size 4 ct _ f w' (hNt.below hb) hb.size dE dE (fun k _=>hS k)
  rw [j1] at h;exact h
 have HJ0:Hid (∀w',Below wt.heap.size wt w' ->C9 225 #[.slice (some ⟨gt,0,none⟩) 4 ct,.int .i64 0] w' (Ret w' (.int .u64 Lo))):=fun w' hb=>by
  have h:=q5n wt.heap.size 4 ct _ f w' (hNt.below hb) hb.size dE dE (fun k _=>hS k)
  rw [j0] at h;exact h
 have hlt:w.heap.size<wt.heap.size:=oQ
 have hR:Blk wt w.heap.size 265 #[.int .u64 0,.int .u64 0]:=blkA;have hbw:Below w.heap.size w wt:=bel;have cR:=hR.cell;have fR:=hR.frozen;clear hba hbb hbt j0 j1 hV hS hNt hNa hNb HA HB HSa HSb
 go_wp2_with (first|(go_at_call 225;(with_reducible refine(HJ1.out _ ?_).mono ?_);exact bel;rintro e wx ⟨rfl,hbx⟩;obtain⟨hcx,hfx,hzx⟩:=bc3 hbx;(try simp at hzx);have hyx0:=ol1 w wx)|(go_at_call 225;(with_reducible refine(HJ0.out _ ?_).mono ?_);exact bel;rintro e wy ⟨rfl,hby⟩;obtain⟨hcy,hfy,hzy⟩:=bc3 hby;(try simp at hzy);have hyy0:=ol1 w wy))
 refine qai (R:=fun w2=>Blk w2 (w.heap.size) 265 #[.int .u64 Hi,.int .u64 Lo]/\Below w.heap.size w w2) ⟨?_,bel⟩ ?_
 · repeat(first|with_reducible exact qdr (x:=.int .u64 0) (y:=.int .u64 0) blkA|(with_reducible refine Blk.new ?_ rfl;focus(simp;done))|with_reducible refine Blk.alloc ?_ _|with_reducible refine Blk.drew ?_)
 rintro w2 ⟨HR,hb2⟩;obtain⟨r0,r1⟩:=ce2 HR;exact bodyPost_ret (v:=.agg #[.int .u64 Hi,.int .u64 Lo]) (by simp [results,Tryz.results219,go_sem,r0,r1]) rfl ⟨rfl,hb2⟩
theorem qp1 (a b:Nat) (ha:a<340282366920938463463374607431768211456) (hb:b<340282366920938463463374607431768211456) (w:World):
 C9 218 #[uV a,uV b] w (Ret w (.int .i64 (sgn ((a:Int)-(b:Int))))):=by
 have ea:a=a/18446744073709551616*18446744073709551616+a%18446744073709551616:=oQ
 have eb:b=b/18446744073709551616*18446744073709551616+b%18446744073709551616:=oQ
 have h1:a%18446744073709551616<18446744073709551616:=oQ
 have h2:b%18446744073709551616<18446744073709551616:=oQ
 simp only [uV]
 obtain⟨x1,e1⟩:∃z,a/18446744073709551616=z:=⟨_,rfl⟩;obtain⟨x0,e0⟩:∃z,a%18446744073709551616=z:=⟨_,rfl⟩;obtain⟨y1,e3⟩:∃z,b/18446744073709551616=z:=⟨_,rfl⟩;obtain⟨y0,e2⟩:∃z,b%18446744073709551616=z:=⟨_,rfl⟩;rw [e1,e0] at ea;rw [e3,e2] at eb;rw [e0] at h1;rw [e2] at h2
 rw [e1,e0,e3,e2]
 clear e0 e1 e2 e3 ha hb
 rcases Nat.lt_trichotomy a b with h|h|h
 · have H:Hid (sgn ((a:Int)-(b:Int))= -1):=by unfold Hid sgn;rw [if_pos oQ]
   rw [H.out]
   rcases zry x1 y1 with hh|hh
   · have k1:(x1:Int)<y1:=oQ
     clear h ea eb
     go_enter Tryz.func218,Tryz.ntmps218
     go_wp2;go_ret;exact⟨rfl,bel⟩
   · have k1:¬ (x1:Int)<y1:=oQ
     have k2:x1=y1:=oQ
     have k3:(x0:Int)<y0:=oQ
     clear h ea eb hh k1;subst k2
     go_enter Tryz.func218,Tryz.ntmps218
     go_wp2;go_ret;exact⟨rfl,bel⟩
 · have H:Hid (sgn ((a:Int)-(b:Int))=0):=by subst h;unfold Hid sgn;rw [if_neg oQ,if_neg oQ]
   rw [H.out]
   have k1:x1=y1:=oQ
   have k2:x0=y0:=oQ
   clear h ea eb H;subst k1;subst k2
   go_enter Tryz.func218,Tryz.ntmps218
   go_wp2;go_ret;exact⟨rfl,bel⟩
 · have H:Hid (sgn ((a:Int)-(b:Int))=1):=by unfold Hid sgn;rw [if_neg oQ,if_pos oQ]
   rw [H.out]
   have k1:¬ (x1:Int)<y1:=oQ
   by_cases hh:x1=y1
   · have k3:¬ (x0:Int)<y0:=oQ
     have k4:¬ x0=y0:=oQ
     clear h ea eb k1 H;subst hh
     go_enter Tryz.func218,Tryz.ntmps218
     go_wp2;go_ret;exact⟨rfl,bel⟩
   · clear h ea eb H
     go_enter Tryz.func218,Tryz.ntmps218
     go_wp2;go_ret;exact⟨rfl,bel⟩
theorem q10 (n:Int) (h1: -9223372036854775808<=n) (h2:n<9223372036854775808) (w:World):
 C9 222 #[.int .i64 n] w (Ret w (.int .u64 (n.natAbs:Int))):=by
 by_cases hn:n<0
 · have e1:IntKind.i64.wrap (n+1)=n+1:=by rw [IntKind.wrap_i64];omega
   have e2:IntKind.i64.wrap (-(n+1))= -(n+1):=by rw [IntKind.wrap_i64];omega
   have e3:IntKind.u64.wrap (-(n+1))= -(n+1):=by rw [IntKind.wrap_u64];omega
   have e4:Hid (IntKind.u64.wrap (-(n+1)+1)=(n.natAbs:Int)):=by unfold Hid;rw [IntKind.wrap_u64];omega
   go_enter Tryz.func222,Tryz.ntmps222
   go_wp2;go_ret;exact⟨qt5 oQ,bel⟩
 · have e:IntKind.u64.wrap n=(n.natAbs:Int):=by rw [IntKind.wrap_u64];omega
   go_enter Tryz.func222,Tryz.ntmps222
   go_wp2;go_ret;exact⟨rfl,bel⟩
theorem qj5 (n:Int) (h1: -9223372036854775808<=n) (h2:n<9223372036854775808) (w:World):
 C9 217 #[.int .i64 n] w (Ret w (uV (n.natAbs*n.natAbs))):=by
 have hN:n.natAbs<18446744073709551616:=oQ
 have HS:=hdQ (fun w=>q10 n h1 h2 w)
 obtain⟨N,hN0⟩:∃N,n.natAbs=N:=⟨_,rfl⟩
 rw [hN0] at HS hN ⊢
 have HM:=hdQ (fun w=>qt7 N N hN hN w)
 simp only [uV] at HM ⊢
 obtain⟨x,ex⟩:∃z,N*N/18446744073709551616=z:=⟨_,rfl⟩;obtain⟨y,ey⟩:∃z,N*N%18446744073709551616=z:=⟨_,rfl⟩
 rw [ex,ey] at HM ⊢
 clear hN0 ex ey
 go_enter Tryz.func217,Tryz.ntmps217
 go_wp2_with (first|(go_at_call 222;refine(HS.out _).monoR ?_;rintro w1 hb1 hc1 hf1 hz1;(try simp at hz1);have hy0:=ol1 w w1)|(go_at_call 219;refine(HM.out _).monoR ?_;rintro w1 hb1 hc1 hf1 hz1;(try simp at hz1);have hy0:=ol1 w w1))
 refine qai (R:=fun w2=>Blk w2 (w.heap.size) 265 #[.int .u64 x,.int .u64 y]/\Below w.heap.size w w2) ⟨?_,bel⟩ ?_
 · repeat(first|with_reducible exact qdr (x:=.int .u64 0) (y:=.int .u64 0) blkA|(with_reducible refine Blk.new ?_ rfl;focus(simp;done))|with_reducible refine Blk.alloc ?_ _|with_reducible refine Blk.drew ?_)
 rintro w2 ⟨HR,hb2⟩;obtain⟨r0,r1⟩:=ce2 HR;exact bodyPost_ret (v:=.agg #[.int .u64 x,.int .u64 y]) (by simp [results,Tryz.results217,go_sem,r0,r1]) rfl ⟨rfl,hb2⟩
theorem q1w (a b:Nat) (ha:a<18446744073709551616) (hb:b<18446744073709551616) (w:World):
 C9 215 #[.int .u64 a,.int .u64 b] w (Ret w (.int .u64 (Nat.gcd a b))):=by
 go_enter Tryz.func215,Tryz.ntmps215
 go_wp2
 go_loopw [0,1] (fun u v wr=>∃x y:Nat,u=.int .u64 x/\v=.int .u64 y/\x<18446744073709551616/\y<18446744073709551616/\Hid (Nat.gcd x y=Nat.gcd a b)/\Below w.heap.size w wr) (fun _ v _=>(intOf v).toNat)
 case atStart=>exact ⟨a,b,rfl,rfl,ha,hb,rfl,Below.refl _ _⟩
 case round=>
  obtain⟨x,y,rfl,rfl,hx,hy,hg,hb⟩:=hrel
  by_cases hz:y=0
  · subst hz
    have HG:Hid (Nat.gcd a b=x):=by have:=hg.out;unfold Hid;rw [<-this,Nat.gcd_zero_right]
    go_wp2;go_ret;exact⟨by rw [HG.out];rfl,bel⟩
  · have hz1:((y:Int) !=0)=true:=by rw [bne_iff_ne];omega
    have hz2:¬ (y:Int)=0:=oQ
    have hz3:(0:Int)<(y:Int):=oQ
    have hz4:0<y:=oQ
    have hm:(x:Int).tmod (y:Int)=((x%y:Nat):Int):=by rw [Int.ofNat_tmod]
    have hlt:x%y<y:=Nat.mod_lt _ oQ
    go_wp2_with fail;refine qac kr kr pq ?_
    simp only [zdy,zey,ldz,lds,bare,qaj,lcz,lcs,zay]
    repeat' ((try simp only [Act.put,lsi,lsz,lss]);first|(refine lqx ?_)|(refine qab qaa rfl (fun K hK=> ?_);go_simp;((first|fail|skip)<;>(refine hK.out _ _ bel ?_;clear hK K))))
    (all_goals try simp only [Act.put,lsi,lsz,lss]);all_goals(refine qad ?_)
    go_wp2
    go_roundw
    case rel=>exact ⟨y,x%y,rfl,by go_num,hy,by omega,by have:=hg.out;unfold Hid;rw [<-this,Nat.gcd_comm y,<-Nat.gcd_rec,Nat.gcd_comm],bel⟩
    case measure=>simp [intOf];omega
theorem and_one (x:Nat) (hx:x<18446744073709551616):bits .and .u64 (x:Int) 1=((x%2:Nat):Int):=by
 have h:=(bits_nat .u64 64 dE (fun n h₀ h₁=>wraps_u64 n h₀ (by simpa using h₁)) x 1 (by simpa using hx) dE).1
 rw [Nat.and_one_is_mod] at h;exact h
theorem qyx (x b:Nat) (hx:x%2=0) (hb:b<2) (hlt:x<18446744073709551616):bits .or .u64 (x:Int) (b:Int)=((x+b:Nat):Int):=by
 rw [bits_join .u64 64 dE (fun n h₀ h₁=>wraps_u64 n h₀ (by simpa using h₁)) 1 _ _ oQ oQ (by rw [show (2:Int) ^ 64=18446744073709551616 by decide];omega) oQ oQ (by rw [show (2:Int) ^ 64=18446744073709551616 by decide];omega)]
 omega
theorem q36 {n d j q r:Nat} (h:DvI n d j q r):q<=n:=by
 rw [h.quo]
 exact zcy (zuy _ (Nat.div_le_self _ _)) (Nat.div_mul_le_self _ _)
theorem or_bit (X P s:Nat) (hs:s<=63) (hX:∃K,X=K*2 ^ (s+1)) (hP:P=2 ^ s) (hlt:X<18446744073709551616):bits .or .u64 (X:Int) (P:Int)=((X+P:Nat):Int):=by
 obtain⟨K,rfl⟩:=hX;subst hP;have h2:(2:Nat) ^ s<=2 ^ 63:=Nat.pow_le_pow_right dE hs
 have h3:(2:Nat) ^ (s+1)=2*2 ^ s:=by rw [Nat.pow_succ,Nat.mul_comm]
 have hpos:0<2 ^ s:=Nat.pow_pos dE
 simp only [Nat.reducePow] at h2
 rw [bits_join .u64 64 dE (fun n h₀ h₁=>wraps_u64 n h₀ (by simpa using h₁)) (s+1) _ _ oQ ?_ (by rw [show (2:Int) ^ 64=18446744073709551616 by decide];omega) oQ (by rw [show (2:Int) ^ (s+1)=((2 ^ (s+1):Nat):Int) by rw [Int.natCast_pow];rfl];omega) (by rw [show (2:Int) ^ 64=18446744073709551616 by decide];omega)]
 · omega
 · rw [Int.natCast_mul,Int.natCast_pow]
   exact Int.mul_emod_left _ _
theorem qt8 (n d:Nat) (hn:n<340282366920938463463374607431768211456) (hd0:0<d) (hd:d<18446744073709551616) (w:World):
 C9 214 #[uV n,.int .u64 d] w (Ret w (.tuple #[uV (n/d),.int .u64 ((n%d:Nat):Int)])):=by
 have HST:=hdQ (q3i n d hn hd0);have HD0:=hdQ hd0;have HNN:=hdQ hn;have HHb:n/18446744073709551616<18446744073709551616:=oQ
 have HLb:n%18446744073709551616<18446744073709551616:=oQ
 simp only [uV]
 obtain⟨A1,eH⟩:∃H,n/18446744073709551616=H:=⟨_,rfl⟩;obtain⟨A0,eL⟩:∃H,n%18446744073709551616=H:=⟨_,rfl⟩;have HBH:=hdQ (fun i (h:64<=i)=>(q7s n i h).trans (by rw [eH]))
 have HBL:=hdQ (fun i (h:i<64)=>(q7r n i h).trans (by rw [eL]))
 rw [eH,eL]
 obtain⟨RQ1,e1⟩:∃z,n/d/18446744073709551616=z:=⟨_,rfl⟩;obtain⟨RQ0,e0⟩:∃z,n/d%18446744073709551616=z:=⟨_,rfl⟩;obtain⟨RR,e2⟩:∃z,n%d=z:=⟨_,rfl⟩
 rw [e1,e0,e2]
 have E1:=hdQ e1;have E0:=hdQ e0;have E2:=hdQ e2;rw [eH] at HHb;rw [eL] at HLb;clear eH eL e1 e0 e2 hn hd0
 go_enter Tryz.func214,Tryz.ntmps214
 go_wp2_with fail;have hA0:Blk (((w.alloc (.cells #[.int .u64 A1,.int .u64 A0] 265)).alloc (.cells #[.int .u64 0,.int .u64 0] 265)).alloc (.cells #[.int .u64 0,.int .u64 0] 265)) w.heap.size 265 #[.int .u64 A1,.int .u64 A0]:=blkA;have hR0:Blk (((w.alloc (.cells #[.int .u64 A1,.int .u64 A0] 265)).alloc (.cells #[.int .u64 0,.int .u64 0] 265)).alloc (.cells #[.int .u64 0,.int .u64 0] 265)) (w.heap.size+1) 265 #[.int .u64 0,.int .u64 0]:=(Blk.new sI rfl).alloc _
 have hQ0:Blk (((w.alloc (.cells #[.int .u64 A1,.int .u64 A0] 265)).alloc (.cells #[.int .u64 0,.int .u64 0] 265)).alloc (.cells #[.int .u64 0,.int .u64 0] 265)) (w.heap.size+1+1) 265 #[.int .u64 0,.int .u64 0]:=Blk.new sI rfl
 have hb0:Below w.heap.size w (((w.alloc (.cells #[.int .u64 A1,.int .u64 A0] 265)).alloc (.cells #[.int .u64 0,.int .u64 0] 265)).alloc (.cells #[.int .u64 0,.int .u64 0] 265)):=bel
 go_loopw [7,8] (fun rv iv wr=>∃(j q r:Nat) (v:Int),j<=128/\iv=.int .i64 v/\v=(j:Int)-1/\rv=.int .u64 r/\Blk wr w.heap.size 265 #[.int .u64 A1,.int .u64 A0]/\Blk wr (w.heap.size+1) 265 #[.int .u64 0,.int .u64 0]/\(∃q1 q0:Nat,Blk wr (w.heap.size+1+1) 265 #[.int .u64 q1,.int .u64 q0]/\Hid (q1=q/18446744073709551616/\q0=q%18446744073709551616))/\Hid (DvI n d j q r)/\Below w.heap.size w wr) (fun _ iv _=>(intOf iv+1).toNat)
 case atStart=>exact ⟨128,0,0,127,zhy _,rfl,rfl,rfl,hA0,hR0,⟨0,0,hQ0,⟨rfl,rfl⟩⟩,HST,hb0⟩
 case round=>
  clear hA0 hR0 hQ0 hb0 HST;obtain⟨j,q,r,v,hj,rfl,hv,rfl,hA,hR,⟨q1,q0,hQ,hq⟩,hI,hb⟩:=hrel;have lA:=hA.lt;have lR:=hR.lt;have lQ:=hQ.lt;have cA:=hA.cell;have cR:=hR.cell;have cQ:=hQ.cell;have fR:=hR.frozen;have fQ:=hQ.frozen
  cases j with
  | zero=>
    have hv0:¬ (0:Int)<=v:=by simp at hv;omega
    obtain⟨k1,k2⟩:=q7f hI.out;have F1:Hid (q1=RQ1):=by unfold Hid;rw [hq.out.1,k1];exact E1.out
    have F0:Hid (q0=RQ0):=by unfold Hid;rw [hq.out.2,k1];exact E0.out
    have F2:Hid (r=RR):=by unfold Hid;rw [k2];exact E2.out
    have e1:=F1.out;have e0:=F0.out;have e2:=F2.out;subst e1 e0 e2;clear k1 k2 F1 F0 F2 hI hq E1 E0 E2 HBH HBL hv;go_wp2_with fail;refine qai (R:=fun w2=>Blk w2 (w.heap.size+1) 265 #[.int .u64 q1,.int .u64 q0]/\Below w.heap.size w w2) ⟨?_,bel⟩ ?_
    · repeat(first|with_reducible exact qdr (x:=.int .u64 0) (y:=.int .u64 0) blkA|(with_reducible refine Blk.new ?_ rfl;focus(simp;done))|with_reducible refine Blk.alloc ?_ _|with_reducible refine Blk.drew ?_)
    rintro w2 ⟨HR,hb2⟩;obtain⟨r0,r1⟩:=ce2 HR;exact bodyPost_ret (v:=.tuple #[.agg #[.int .u64 q1,.int .u64 q0],.int .u64 r]) (by simp [results,Tryz.results214,go_sem,r0,r1]) rfl ⟨rfl,hb2⟩
  | succ i=>
    obtain⟨v',hv'⟩:∃z,v=z:=⟨_,rfl⟩;have hvi:v=(i:Int):=oQ
    clear hv hv';subst hvi
    by_cases h64:64<=i
    · have hs64:(64:Int)<=(i:Int):=oQ
      obtain⟨s,es⟩:∃s,i-64=s:=⟨_,rfl⟩;have hbit:=HBH.out i h64;rw [es] at hbit;have ws:(i:Int)-64=(s:Int):=oQ
      have ws2:IntKind.i64.wrap (s:Int)=(s:Int):=by rw [IntKind.wrap_i64];omega
      have hA1d:A1/2 ^ s<18446744073709551616:=zix (Nat.div_le_self _ _) HHb;have hs63:s<=63:=oQ
      obtain⟨y,ey⟩:∃y,A1/2 ^ s=y:=⟨_,rfl⟩;have wy:(A1:Int)/2 ^ s=(y:Int):=by rw [<-ey,Int.natCast_ediv,Int.natCast_pow];rfl
      rw [ey] at hbit hA1d;have wb:=and_one y hA1d;obtain⟨hq1,hq0⟩:=hq.out;have hqle:=q36 hI.out;have hqlt:=HNN.out;have hq1b:q1<18446744073709551616:=oQ
      have hq0b:q0<18446744073709551616:=oQ
      obtain⟨s1,s2,s3⟩:=q0b HD0.out hI.out;have hrlt:r<d:=by rw [hI.out.rem];exact Nat.mod_lt _ HD0.out
      rw [hbit] at s1 s2 s3;obtain⟨bt,ebt⟩:∃b,y%2=b:=⟨_,rfl⟩;rw [ebt] at s1 s2 s3 wb;have hbt:bt<2:=oQ
      obtain⟨P,eP⟩:∃P,2 ^ s=P:=⟨_,rfl⟩
      have hPb:P<18446744073709551616:=by
       have h2:(2:Nat) ^ s<=2 ^ 63:=Nat.pow_le_pow_right dE hs63
       simp only [Nat.reducePow] at h2
       omega
      have wP:IntKind.u64.wrap ((2:Int) ^ s)=(P:Int):=by rw [show (2:Int) ^ s=((2 ^ s:Nat):Int) by rw [Int.natCast_pow];rfl,eP,qau _ hPb]
      obtain⟨r2,er2⟩:∃z,2*r%18446744073709551616=z:=⟨_,rfl⟩;have wr2:IntKind.u64.wrap ((r:Int)*2)=(r2:Int):=by rw [IntKind.wrap_u64];omega
      have wor:=qyx r2 bt oQ hbt oQ
      obtain⟨V,eV⟩:∃z,r2+bt=z:=⟨_,rfl⟩;rw [eV] at wor;have wi:IntKind.i64.wrap ((i:Int)-1)=(i:Int)-1:=by rw [IntKind.wrap_i64];omega
      have hi0:(0:Int)<=(i:Int):=oQ
      by_cases hT:d<=2*r+bt
      · have HI2:=hdQ (s2 hT)
        obtain⟨z1,z2,z3,z4⟩:=q6r (n/2 ^ (i+1)/d) i h64;rw [<-hI.out.quo] at z1 z2 z3 z4;have hor:=or_bit q1 P s hs63 ⟨n/2 ^ (i+1)/d,by rw [hq1,z3,show i+1-64=s+1 by omega]⟩ eP.symm hq1b
        have HQ2:Hid (q1+P=(q+2 ^ i)/18446744073709551616/\q0=(q+2 ^ i)%18446744073709551616):=by
         unfold Hid
         rw [z1,z2,hq1,z3,hq0,z4,<-eP,es]
         exact⟨rfl,rfl⟩
        clear z1 z2 z3 z4;obtain⟨qn,eqn⟩:∃z,q1+P=z:=⟨_,rfl⟩;rw [eqn] at hor HQ2;obtain⟨r',er'⟩:∃z,2*r+bt-d=z:=⟨_,rfl⟩;rw [er'] at HI2;have wsub:IntKind.u64.wrap ((V:Int)-(d:Int))=(r' :Int):=by rw [IntKind.wrap_u64];omega
        have htop:(r:Int)/9223372036854775808=1\/((r:Int)/9223372036854775808=0/\(d:Int)<=(V:Int)):=oQ
        clear s1 s2 s3 hqle hqlt hq1b hq0b hrlt hbt hPb eP er2 eV er' eqn hq1 hq0 hbit ey hA1d ebt hT
        rcases htop with ht|⟨ht,ht2⟩
        all_goals
         go_wp2_with fail
         go_still_tail 7,kr
         change wpList _ _ _ _ _ wr.drew
         go_wp2
         go_roundw
         case rel=>exact ⟨i,q+2 ^ i,r',(i:Int)-1,by omega,by first|rfl|go_num,rfl,rfl,((hA.far (p:=⟨w.heap.size+1+1,_,none⟩) (by simp;try omega) _).drew),((hR.far (p:=⟨w.heap.size+1+1,_,none⟩) sI _).drew),⟨qn,q0,((hQ.set_ 0 (.int .u64 qn)).drew).eq_ sI,HQ2⟩,HI2,bel⟩
         case measure=>first|(simp [intOf];done)|(simp [intOf];omega)
      · have HI2:=hdQ (s3 oQ)
        have HQ2:=hq;have eVr:2*r+bt=V:=oQ
        rw [eVr] at HI2;have ht:(r:Int)/9223372036854775808=0:=oQ
        have ht2:¬ (d:Int)<=(V:Int):=oQ
        clear s1 s2 s3 hqle hqlt hq1b hq0b hrlt hbt hPb eP er2 eV hq1 hq0 hbit ey hA1d ebt hT eVr wP;go_wp2_with fail
        go_roundw
        case rel=>exact ⟨i,q,V,(i:Int)-1,by omega,by first|rfl|go_num,rfl,rfl,hA,hR,⟨q1,q0,hQ,HQ2⟩,HI2,hb⟩
        case measure=>first|(simp [intOf];done)|(simp [intOf];omega)
    · have hs64:¬ (64:Int)<=(i:Int):=oQ
      have hbit:=HBL.out i oQ
      have hA1d:A0/2 ^ i<18446744073709551616:=zix (Nat.div_le_self _ _) HLb;have hs63:i<=63:=oQ
      obtain⟨y,ey⟩:∃y,A0/2 ^ i=y:=⟨_,rfl⟩;have wy:(A0:Int)/2 ^ i=(y:Int):=by rw [<-ey,Int.natCast_ediv,Int.natCast_pow];rfl
      rw [ey] at hbit hA1d;have wb:=and_one y hA1d;obtain⟨hq1,hq0⟩:=hq.out;have hqle:=q36 hI.out;have hqlt:=HNN.out;have hq1b:q1<18446744073709551616:=oQ
      have hq0b:q0<18446744073709551616:=oQ
      obtain⟨s1,s2,s3⟩:=q0b HD0.out hI.out;have hrlt:r<d:=by rw [hI.out.rem];exact Nat.mod_lt _ HD0.out
      rw [hbit] at s1 s2 s3;obtain⟨bt,ebt⟩:∃b,y%2=b:=⟨_,rfl⟩;rw [ebt] at s1 s2 s3 wb;have hbt:bt<2:=oQ
      obtain⟨P,eP⟩:∃P,2 ^ i=P:=⟨_,rfl⟩
      have hPb:P<18446744073709551616:=by
       have h2:(2:Nat) ^ i<=2 ^ 63:=Nat.pow_le_pow_right dE hs63
       simp only [Nat.reducePow] at h2
       omega
      have wP:IntKind.u64.wrap ((2:Int) ^ i)=(P:Int):=by rw [show (2:Int) ^ i=((2 ^ i:Nat):Int) by rw [Int.natCast_pow];rfl,eP,qau _ hPb]
      obtain⟨r2,er2⟩:∃z,2*r%18446744073709551616=z:=⟨_,rfl⟩;have wr2:IntKind.u64.wrap ((r:Int)*2)=(r2:Int):=by rw [IntKind.wrap_u64];omega
      have wor:=qyx r2 bt oQ hbt oQ
      obtain⟨V,eV⟩:∃z,r2+bt=z:=⟨_,rfl⟩;rw [eV] at wor;have wi:IntKind.i64.wrap ((i:Int)-1)=(i:Int)-1:=by rw [IntKind.wrap_i64];omega
      have hi0:(0:Int)<=(i:Int):=oQ
      by_cases hT:d<=2*r+bt
      · have HI2:=hdQ (s2 hT)
        obtain⟨z1,z2,K,z3⟩:=q6q (n/2 ^ (i+1)/d) i oQ
        rw [<-hI.out.quo] at z1 z2 z3;have hor:=or_bit q0 P i hs63 ⟨K,by rw [hq0,z3]⟩ eP.symm hq0b
        have HQ2:Hid (q1=(q+2 ^ i)/18446744073709551616/\q0+P=(q+2 ^ i)%18446744073709551616):=by
         unfold Hid
         rw [z1,z2,hq1,hq0,<-eP]
         exact⟨rfl,rfl⟩
        clear z1 z2 z3;obtain⟨qn,eqn⟩:∃z,q0+P=z:=⟨_,rfl⟩;rw [eqn] at hor HQ2;obtain⟨r',er'⟩:∃z,2*r+bt-d=z:=⟨_,rfl⟩;rw [er'] at HI2;have wsub:IntKind.u64.wrap ((V:Int)-(d:Int))=(r' :Int):=by rw [IntKind.wrap_u64];omega
        have htop:(r:Int)/9223372036854775808=1\/((r:Int)/9223372036854775808=0/\(d:Int)<=(V:Int)):=oQ
        clear s1 s2 s3 hqle hqlt hq1b hq0b hrlt hbt hPb eP er2 eV er' eqn hq1 hq0 hbit ey hA1d ebt hT
        rcases htop with ht|⟨ht,ht2⟩
        all_goals
         go_wp2_with fail
         go_still_tail 6,kr
         change wpList _ _ _ _ _ wr.drew
         go_wp2
         go_roundw
         case rel=>exact ⟨i,q+2 ^ i,r',(i:Int)-1,by omega,by first|rfl|go_num,rfl,rfl,((hA.far (p:=⟨w.heap.size+1+1,_,none⟩) (by simp;try omega) _).drew),((hR.far (p:=⟨w.heap.size+1+1,_,none⟩) sI _).drew),⟨q1,qn,((hQ.set_ 1 (.int .u64 qn)).drew).eq_ sI,HQ2⟩,HI2,bel⟩
         case measure=>first|(simp [intOf];done)|(simp [intOf];omega)
      · have HI2:=hdQ (s3 oQ)
        have HQ2:=hq;have eVr:2*r+bt=V:=oQ
        rw [eVr] at HI2;have ht:(r:Int)/9223372036854775808=0:=oQ
        have ht2:¬ (d:Int)<=(V:Int):=oQ
        clear s1 s2 s3 hqle hqlt hq1b hq0b hrlt hbt hPb eP er2 eV hq1 hq0 hbit ey hA1d ebt hT eVr wP;go_wp2_with fail
        go_roundw
        case rel=>exact ⟨i,q,V,(i:Int)-1,by omega,by first|rfl|go_num,rfl,rfl,hA,hR,⟨q1,q0,hQ,HQ2⟩,HI2,hb⟩
        case measure=>first|(simp [intOf];done)|(simp [intOf];omega)
theorem qr3 (n d:Nat) (hn:n<340282366920938463463374607431768211456) (hd0:0<d) (hd:d<18446744073709551616) (w:World):
 C9 207 #[uV n,.int .u64 d] w (Ret w (fV (lowF n d))):=by
 have hr:=Nat.mod_lt n hd0;have hg:0<Nat.gcd d (n%d):=Nat.gcd_pos_of_pos_left _ hd0;have hgl:Nat.gcd d (n%d)<=d:=Nat.le_of_dvd hd0 (Nat.gcd_dvd_left _ _);have H1:=hdQ (fun w=>qt8 n d hn hd0 hd w)
 have H2:=hdQ (fun w=>q1w d (n%d) hd oQ w)
 have H3:=hdQ (fun w=>qt8 n (Nat.gcd d (n%d)) hn hg oQ w)
 have hq:=Nat.div_le_self d (Nat.gcd d (n%d));unfold lowF fV
 simp only
 obtain⟨r,er⟩:∃r,n%d=r:=⟨_,rfl⟩
 rw [er] at H1 H2 H3 hg hgl hq ⊢
 obtain⟨g,eg⟩:∃g,Nat.gcd d r=g:=⟨_,rfl⟩
 rw [eg] at H2 H3 hg hgl hq ⊢
 obtain⟨x0,e0⟩:∃r,n/d/18446744073709551616=r:=⟨_,rfl⟩;obtain⟨x1,e1⟩:∃r,n/d%18446744073709551616=r:=⟨_,rfl⟩;obtain⟨x2,e2⟩:∃r,n/g/18446744073709551616=r:=⟨_,rfl⟩;obtain⟨x3,e3⟩:∃r,n/g%18446744073709551616=r:=⟨_,rfl⟩;obtain⟨x4,e4⟩:∃r,n%g=r:=⟨_,rfl⟩;obtain⟨x5,e5⟩:∃r,n/18446744073709551616=r:=⟨_,rfl⟩;obtain⟨x6,e6⟩:∃r,n%18446744073709551616=r:=⟨_,rfl⟩
 simp only [uV] at H1 H3 ⊢
 rw [e0,e1,e5,e6] at H1;rw [e2,e3,e4,e5,e6] at H3
 rw [e2,e3,e5,e6]
 have k1:IntKind.u64.wrap ((d:Int)/(g:Int))=((d/g:Nat):Int):=by rw [<-Int.natCast_ediv];exact qau _ oQ
 obtain⟨x7,e7⟩:∃r,d/g=r:=⟨_,rfl⟩
 rw [e7] at k1 ⊢
 have hz1:¬ g=0:=oQ
 clear hn hd0 hd hr er eg hgl hg hq e0 e1 e2 e3 e4 e5 e6 e7
 go_enter Tryz.func207,Tryz.ntmps207
 go_wp2_with (first|(go_at_call 215;refine(H2.out _).monoR ?_;rintro w1 hb1 hc1 hf1 hz1;(try simp at hz1);obtain⟨hy0,hy1⟩:=ol2 w w1)|(go_at_call 214;have _h:=hza;refine(H3.out _).monoR ?_;rintro w1 hb1 hc1 hf1 hz1;(try simp at hz1);obtain⟨hy0,hy1⟩:=ol2 w w1)|(go_at_call 214;refine(H1.out _).monoR ?_;rintro wa hba hca hfa hza;(try simp at hza);obtain⟨hya,hya1⟩:=ol2 w wa))
 have hlt1:w.heap.size+1<w1.heap.size:=oQ
 refine qfo (fun w2=>Below w.heap.size w w2/\Blk w2 (w.heap.size+1) 71 #[.int .u64 0,.int .u64 0,.int .u64 0]/\Blk w2 w1.heap.size 265 #[.int .u64 x2,.int .u64 x3]) ⟨bel,blkA,blkA⟩ ?_
 clear hb1 hc1 hf1 hba hca hfa H1 H2 H3;rintro w2 ⟨hb,hZ,hU⟩;have cZ:=hZ.cell;have fZ:=hZ.frozen;have lZ:=hZ.lt;have cU:=hU.cell;have lU:=hU.lt
 go_still_tail 7,kr
 change wpList _ _ _ _ _ w2.drew
 go_wp2;refine qai (R:=fun w2=>Blk w2 (w.heap.size+1) 71 #[.int .u64 x2,.int .u64 x3,.int .u64 x7]/\Below w.heap.size w w2) ⟨?_,bel⟩ ?_
 · repeat(first|with_reducible exact qat (x:=.int .u64 0) (y:=.int .u64 0) (z:=.int .u64 0) blkA|(with_reducible refine Blk.new ?_ rfl;focus(simp;done))|with_reducible refine Blk.alloc ?_ _|with_reducible refine Blk.drew ?_)
 rintro w2 ⟨HR,hb2⟩;obtain⟨r0,r1,r2⟩:=ce3 HR;exact bodyPost_ret (v:=.agg #[.int .u64 x2,.int .u64 x3,.int .u64 x7]) (by simp [results,Tryz.results207,go_sem,r0,r1,r2]) rfl ⟨rfl,hb2⟩
end Go.Proofs.YtfnhnjbkkggbeaaGreat
