/-Plain laws of the reference's numbers-/
import Derived.Test.YteodamnfgcnmmaaGreatRWide
import Derived.Test.YteodamnfgcnmmaaGreatRBits2
import Derived.Deep.OwnRows
import Derived.StillTailTactics
set_option linter.unusedVariables false
set_option linter.unusedSimpArgs false
set_option maxHeartbeats 4000000
set_option maxRecDepth 20000
namespace Pg
def valF (f:Nat->Nat):Nat->Nat
 | 0=>0
 | n+1=>valF f n+f n*4294967296 ^ n
def updF (f:Nat->Nat) (j v:Nat):Nat->Nat:=fun i=>if i=j then v else f i
theorem qog (f:Nat->Nat) (j v:Nat):∀n,valF (updF f j v) n+(if j<n then f j*4294967296 ^ j else 0)=valF f n+(if j<n then v*4294967296 ^ j else 0):=by
 intro n
 induction n with
 | zero=>simp [valF]
 | succ n ih=>
   rw [valF,valF]
   rcases Nat.lt_trichotomy j n with h|h|h
   · have e:updF f j v n=f n:=by unfold updF;rw [if_neg oQ]
     rw [e,if_pos oQ,if_pos oQ]
     rw [if_pos h,if_pos h] at ih
     omega
   · subst h
     have e:updF f j v j=v:=by unfold updF;rw [if_pos rfl]
     rw [e,if_pos oQ,if_pos oQ]
     rw [if_neg oQ,if_neg oQ] at ih
     omega
   · have e:updF f j v n=f n:=by unfold updF;rw [if_neg oQ]
     rw [e,if_neg oQ,if_neg oQ]
     rw [if_neg oQ,if_neg oQ] at ih
     omega
theorem qqt (n:Nat):valF (fun _=>0) n=0:=by
 induction n with
 | zero=>rfl
 | succ n ih=>rw [valF,ih];simp
theorem qtq (i k:Nat):(4294967296:Nat) ^ (i+k)=4294967296 ^ i*4294967296 ^ k:=Nat.pow_add _ _ _
structure TmI (a b f:Nat->Nat) (N n i k c:Nat):Prop where
 val:valF f N+c*4294967296 ^ (i+k)=valF a i*valF b n+a i*valF b k*4294967296 ^ i
 small:∀j,f j<4294967296
 none:∀j,i+n<=j->f j=0
 carry:c<4294967296
structure TmO (a b f:Nat->Nat) (N n i:Nat):Prop where
 val:valF f N=valF a i*valF b n
 small:∀j,f j<4294967296
 none:∀j,i+n<=j->f j=0
theorem qta (a b:Nat->Nat) (N n:Nat):TmO a b (fun _=>0) N n 0:=⟨by rw [qqt];simp [valF],fun _=>by decide,fun _ _=>rfl⟩
theorem qwb {a b f:Nat->Nat} {N n i:Nat} (h:TmO a b f N n i):TmI a b f N n i 0 0:=⟨by rw [h.val];simp [valF],h.small,h.none,by decide⟩
theorem qoi {a b f:Nat->Nat} {N n i k c:Nat} (ha:a i<4294967296) (hb:b k<4294967296) (h:TmI a b f N n i k c):a i*b k+f (i+k)+c<18446744073709551616/\a i*b k<18446744073709551616/\a i*b k+f (i+k)<18446744073709551616:=by
 have h1:=h.small (i+k);have h2:=h.carry;have h3:a i*b k<=4294967295*4294967295:=Nat.mul_le_mul oQ oQ
 omega
theorem qu9 {a b f:Nat->Nat} {N n i k c:Nat} (ha:a i<4294967296) (hb:b k<4294967296) (hk:k<n) (hN:i+n<N) (h:TmI a b f N n i k c):
 TmI a b (updF f (i+k) ((a i*b k+f (i+k)+c)%4294967296)) N n i (k+1) ((a i*b k+f (i+k)+c)/4294967296):=by
 obtain⟨b1,_⟩:=qoi ha hb h;refine⟨?_,?_,?_,by omega⟩
 · have hu:=qog f (i+k) ((a i*b k+f (i+k)+c)%4294967296) N
   rw [if_pos oQ,if_pos oQ] at hu
   have hv:=h.val
   rw [show i+(k+1)=(i+k)+1 by omega,Nat.pow_succ,valF]
   have hd:=Nat.div_add_mod (a i*b k+f (i+k)+c) 4294967296;generalize (a i*b k+f (i+k)+c)%4294967296=r at*;generalize (a i*b k+f (i+k)+c)/4294967296=q at*
   rw [qtq] at*
   generalize valF (updF f (i+k) r) N=V' at*;generalize valF f N=V at*;generalize valF b k=Bk at*;generalize valF a i*valF b n=X at*;generalize (4294967296:Nat) ^ i=Pi at*;generalize (4294967296:Nat) ^ k=Pk at*;generalize f (i+k)=F at*;generalize a i=ai at*;generalize b k=bk at*;have e:(4294967296*q+r)*(Pi*Pk)=(ai*bk+F+c)*(Pi*Pk):=by rw [hd]
   grind
 · intro j
   unfold updF
   split
   · omega
   · exact h.small j
 · intro j hj
   unfold updF
   rw [if_neg oQ]
   exact h.none j hj
theorem qwc {a b f:Nat->Nat} {N n i c:Nat} (hN:i+n<N) (h:TmI a b f N n i n c):TmO a b (updF f (i+n) c) N n (i+1):=by
 refine⟨?_,?_,?_⟩
 · have hu:=qog f (i+n) c N
   rw [if_pos hN,if_pos hN,h.none (i+n) (zhy _)] at hu;have hv:=h.val
   rw [valF,Nat.add_mul]
   rw [Nat.zero_mul,Nat.add_zero] at hu
   rw [hu,hv]
   grind
 · intro j
   unfold updF
   split
   · exact h.carry
   · exact h.small j
 · intro j hj
   unfold updF
   rw [if_neg oQ]
   exact h.none j oQ
end Pg
namespace Go.Proofs.YteodamnfgcnmmaaGreat
open Go.RowKit Pg
def NatF (w:World) (B:Nat) (A:Option Addr) (n:Nat) (f:Nat->Nat):Prop:=
 0<n->∃b off,A=some ⟨b,off,none⟩/\b<B/\∀k,k<n->w.cell? ⟨b,off+k,none⟩=some (.int .u64 (f k))
theorem NatF.below {w w' :World} {B n:Nat} {A:Option Addr} {f:Nat->Nat} (h:NatF w B A n f) (hb:Below B w w'):NatF w' B A n f:=fun hn=>by
 obtain⟨b,off,e,hlt,hc⟩:=h hn;exact⟨b,off,e,hlt,fun k hk=>(hb.cell (p:=⟨b,off+k,none⟩) hlt).trans (hc k hk)⟩
theorem NatF.up {w:World} {B B' n:Nat} {A:Option Addr} {f:Nat->Nat} (h:NatF w B A n f) (hB:B<=B'):NatF w B' A n f:=fun hn=>by
 obtain⟨b,off,e,hlt,hc⟩:=h hn;exact⟨b,off,e,by omega,hc⟩
theorem qke {w:World} {g:Nat} {t:TypeId} {cs:Array Value} {n:Nat} (f:Nat->Nat) (hg:Blk w g t cs) (hc:∀k,k<n->cs[k]? =some (.int .u64 (f k))):NatF w w.heap.size (some ⟨g,0,none⟩) n f:=
 fun _=>⟨g,0,rfl,hg.lt,fun k hk=>by rw [Nat.zero_add,hg.cell];exact hc k hk⟩
def qfi (f:Nat->Nat) (j:Nat):Nat:=if j%2=0 then f (j/2)%4294967296 else f (j/2)/4294967296
def qce (f:Nat->Nat) (n:Nat):List Value:=(List.range n).map fun j=> .int .u64 (f j)
theorem qhg {f:Nat->Nat} {n k:Nat} (h:k<n):(qce f n)[k]? =some (.int .u64 (f k)):=by simp [qce,h]
theorem qpz (f:Nat->Nat) (k:Nat):qce f (2*(k+1))=qce f (2*k)++ [.int .u64 (f (2*k)),.int .u64 (f (2*k+1))]:=by
 unfold qce
 rw [show 2*(k+1)=2*k+1+1 by omega,List.range_succ,List.range_succ]
 simp
theorem qt0 {w:World} {base:Nat} {e:TypeId} {v:Value} {n:Nat} {f:Nat->Nat} (h:w.ownsRow base e 1 v n (qce f n)):
 ∃A c,v=.slice A n c/\NatF w w.heap.size A n f:=by
 obtain⟨h1,⟨rfl,rfl⟩|⟨g,cap,cur,rfl,hg,hh,hc⟩⟩:=h
 · exact⟨none,0,rfl,fun h=>absurd h oQ⟩
 · refine⟨_,cap,rfl,fun hn=>⟨g,0,rfl,lt_of_block hh,fun k hk=> ?_⟩⟩
   have hown:w.ownsRow base e 1 (.slice (some ⟨g,0,none⟩) n cap) n (qce f n):=⟨h1,.inr ⟨g,cap,cur,rfl,hg,hh,hc⟩⟩
   rw [Nat.zero_add,hown.cellAt k oQ]
   exact qhg hk
theorem Tryz.infoU64:(Tryz.prog.info? 188).map (fun i=>(i.zero,i.size,i.bytes))=some (some (.int .u64 0),1,8):=by kernel_rfl
theorem qv9 {w:World} {x y:Value} {t:TypeId}:∀(j:Nat) (v:Value),[x,y][j]? =some v->(w.alloc (.cells #[x,y] t)).drew.cell? ((⟨w.heap.size,0,none⟩:Addr).add j)=some v:=by
 intro j v hj
 match j,hj with
 | 0,hj=>simp at hj;subst hj;simp [Addr.add]
 | 1,hj=>simp at hj;subst hj;simp [Addr.add]
theorem qu7 {x y:Nat}:∀v∈ [Value.int .u64 x,.int .u64 y],v.oneCell' =true:=by
 intro v hv;simp only [List.mem_cons,List.not_mem_nil,or_false] at hv
 rcases hv with rfl|rfl<;>rfl
theorem qtj {a b:Int} (h:a=b):Ending.returned (.int .u64 a)=Ending.returned (.int .u64 b):=by rw [h]
theorem qqr (B n c:Nat) (A:Option Addr) (f:Nat->Nat) (w:World) (hl:NatF w B A n f) (hB:B<=w.heap.size) (hn:n<=1000) (hf:∀k,k<n->f k<18446744073709551616):
 C9 183 #[.slice A n c] w (fun e w' =>∃A' c',e=.returned (.slice A' (2*n) c')/\NatF w' w'.heap.size A' (2*n) (qfi f)/\Below w.heap.size w w'):=by
 have HFb:=hdQ hf;clear hf;obtain⟨i0,hi,iz0,iz1,iz2⟩:=info_parts Tryz.infoU64
 go_enter Tryz.func183,Tryz.ntmps183
 go_wp2
 go_loopw [3,4] (fun s i wr=>∃k:Nat,k<=n/\i=.int .i64 k/\wr.ownsRow w.heap.size 188 1 s (2*k) (qce (qfi f) (2*k))/\Below w.heap.size w wr) (fun _ i _=>n-(intOf i).toNat)
 case atStart=>exact ⟨0,zly _,rfl,World.ownsRow_nil _ _ _ _,Below.refl _ _⟩
 case round=>
  obtain⟨k,hk,rfl,hown,hb⟩:=hrel
  by_cases hlt:k<n
  · obtain⟨b,off,rfl,hab,hc⟩:=(hl.below (hb.mono hB)) oQ
    have c0:=hc k hlt;clear hc;have hbs:=hb.size;have hbw:b<wr.heap.size:=oQ
    have hbw9:b<w.heap.size:=oQ
    have hk0:(k:Int)<(n:Int):=oQ
    have hfk:=HFb.out k hlt
    have HW:Hid (qce (qfi f) (2*(k+1))=qce (qfi f) (2*k)++ [.int .u64 ((f k%4294967296:Nat):Int),.int .u64 ((f k/4294967296:Nat):Int)]):=by
     unfold Hid
     rw [qpz]
     unfold qfi
     rw [if_pos oQ,if_neg oQ,show 2*k/2=k by omega,show (2*k+1)/2=k by omega]
    obtain⟨x,ex⟩:∃x,f k=x:=⟨_,rfl⟩;rw [ex] at c0 hfk HW;have e1:=Mul64.maskN x hfk;have e2:=Mul64.divN x;obtain⟨lo,elo⟩:∃y,x%4294967296=y:=⟨_,rfl⟩;obtain⟨hi',ehi⟩:∃y,x/4294967296=y:=⟨_,rfl⟩;rw [elo] at e1 HW;rw [ehi] at e2 HW;clear elo ehi ex hfk;have hb5:Below w.heap.size wr (wr.alloc (.cells #[.int .u64 lo,.int .u64 hi'] 188)):=Below.mono (B:=wr.heap.size) bel oQ
    go_wp2_with fail;refine qa8 (w.heap.size) [0,1,2,3,4,5,6,7,8,9,10,11,12,13] kr kr pq ?_
    simp only [zdy,zey,ldz,lds,bare,qam,lcz,lcs,zay]
    repeat' ((try simp only [Act.put,lsi,lsz,lss]);first|(refine lqy ?_)|(refine qac qaa rfl (fun K hK=> ?_);(refine wp_append_own _ _ _ 231 rfl w.heap.size 188 i0 (.int .u64 0) 1 8 Tryz.underlying231 hi iz0 iz1 iz2 rfl dE _ _ _ rfl (qhb (hown.alloc _)) ⟨wr.heap.size,0,none⟩ 2 2 [.int .u64 lo,.int .u64 hi'] rfl rfl ?_ ?_ ?_ ?_ ?_ ?_);(focus(exact qv9));(focus(exact qu7));(focus(unfold maxLen;omega));(focus omega);(focus(simp;omega));intro v' w2 hown' hgrow _;have hlt' :=hown.lt;have hb2:Below w.heap.size w w2:=(Below.grown (w:=(wr.alloc _).drew) bel hgrow (by simp;omega) (fun j e=>by have:=(hlt' j e).1;omega));have hb3:Below w.heap.size ((wr.alloc (.cells #[.int .u64 lo,.int .u64 hi'] 188)).drew) w2:=(Below.grown (w:=(wr.alloc (.cells #[.int .u64 lo,.int .u64 hi'] 188)).drew) (Below.refl _ _) hgrow (by simp;omega) (fun j e=>(hlt' j e).1));have hb4:Below w.heap.size wr w2:=(Below.trans bel hb3);refine hK.out _ _ (by first|with_reducible exact qbp|with_reducible exact Below.drew qbp|exact bel) ?_;clear hK K)|(refine qac qaa rfl (fun K hK=> ?_);go_simp;((first|fail  | skip)<;>(refine hK.out _ _ (by first|with_reducible exact qbp|with_reducible exact Below.drew qbp|exact bel) ?_;clear hK K))))
    (all_goals try simp only [Act.put,lsi,lsz,lss]);all_goals(refine qaf ?_)
    have hown2:w2.ownsRow w.heap.size 188 1 v' (2*(k+1)) (qce (qfi f) (2*(k+1))):=by rw [HW.out];exact hown'
    clear hown' hgrow hown hlt' hb3 hb4 hb5 c0 HW;go_wp2
    go_roundw
    case rel=>exact ⟨k+1,by omega,by go_num,hown2,hb2⟩
    case measure=>simp [intOf];omega
  · have hkn:k=n:=oQ
    subst hkn;obtain⟨A2,c2,rfl,hfr⟩:=qt0 hown;have HR:=hdQ hfr;clear hown hfr HFb;go_wp2;go_ret;exact⟨A2,c2,rfl,HR.out,hb⟩
theorem qo1 (B n c k:Nat) (A:Option Addr) (f:Nat->Nat) (w:World) (hl:NatF w B A n f) (hB:B<=w.heap.size) (hn:n<=1000) (hk:2*k+1<n) (hf:∀k,k<n->f k<4294967296):
 C9 184 #[.slice A n c,.int .i64 k] w (Ret w (.int .u64 ((f (2*k)+f (2*k+1)*4294967296:Nat):Int))):=by
 obtain⟨b,off,rfl,hab,hc⟩:=hl oQ
 have c0:=hc (2*k) oQ
 have c1:=hc (2*k+1) hk;have x0:=hf (2*k) oQ
 have x1:=hf (2*k+1) hk;have hbw:b<w.heap.size:=oQ
 obtain⟨m,em⟩:∃m,2*k=m:=⟨_,rfl⟩
 rw [em] at c0 c1 x0 x1 hk ⊢
 have k1:IntKind.i64.wrap (2*(k:Int))=(m:Int):=by rw [IntKind.wrap_i64];omega
 have k2:IntKind.i64.wrap ((m:Int)+1)=(m:Int)+1:=by rw [IntKind.wrap_i64];omega
 have k3:(m:Int)<(n:Int):=oQ
 have k5:m<n:=oQ
 have k7:(0:Int)<=(m:Int)+1:=oQ
 have k6:m+1<n:=oQ
 have k4:(m:Int)+1<(n:Int):=oQ
 obtain⟨u,eu⟩:∃u,f m=u:=⟨_,rfl⟩;obtain⟨v,ev⟩:∃u,f (m+1)=u:=⟨_,rfl⟩;rw [eu] at c0 x0;rw [ev] at c1 x1
 rw [eu,ev]
 have q1:IntKind.u64.wrap ((v:Int)*4294967296)=(v:Int)*4294967296:=by rw [IntKind.wrap_u64];omega
 have q2:bits .or .u64 (u:Int) ((v:Int)*4294967296)=((u+v*4294967296:Nat):Int):=by
  rw [u64_or32 (u:Int) ((v:Int)*4294967296) oQ oQ oQ oQ oQ]
  omega
 have Q2:=hdQ q2;clear q2 hc hf hl
 go_enter Tryz.func184,Tryz.ntmps184
 go_wp2_with fail;refine qab kr kr pq ?_
 simp only [zdy,zey,ldz,lds,bare,qam,lcz,lcs,zay]
 repeat' ((try simp only [Act.put,lsi,lsz,lss]);first|(refine lqx ?_)|(refine qac qaa rfl (fun K hK=> ?_);go_simp;((first|fail|skip)<;>(refine hK.out _ _ bel ?_;clear hK K))))
 (all_goals try simp only [Act.put,lsi,lsz,lss]);all_goals(refine qaf ?_)
 go_wp2;go_ret;exact⟨qtj Q2.out,bel⟩
theorem qp3 (N:Nat):madeCells #[Value.int .u64 0] N=(qce (fun _=>0) N).toArray:=by
 apply Array.ext_getElem?
 intro j
 by_cases hj:j<N
 · simp [madeCells,qce,hj,Nat.mod_one]
 · simp [madeCells,qce,hj]
theorem qkd (f:Nat->Nat) (N j v:Nat):(qce f N).toArray.setIfInBounds j (.int .u64 v)=(qce (updF f j v) N).toArray:=by
 apply Array.ext_getElem?
 intro k
 rw [Array.getElem?_setIfInBounds]
 by_cases hk:k<N
 · by_cases e:j=k
   · subst e
     simp [qce,hk,updF]
   · have e' :¬ k=j:=fun h=>e h.symm
     simp [qce,hk,updF,e,e']
 · by_cases e:j=k
   · subst e
     simp [qce,hk]
   · simp [qce,hk,e]
theorem qq1 (B n c n' c' :Nat) (A A' :Option Addr) (a b:Nat->Nat) (w:World) (ha:NatF w B A n a) (hb:NatF w B A' n' b) (hB:B<=w.heap.size) (hn:0<n) (hn2:n<=1000) (hn' :0<n') (hn2' :n' <=1000) (sa:∀k,k<n->a k<4294967296) (sb:∀k,k<n' ->b k<4294967296):
 C9 182 #[.slice A n c,.slice A' n' c'] w (fun e w' =>∃g c2 f,e=.returned (.slice (some ⟨g,0,none⟩) (n+n') c2)/\NatF w' w'.heap.size (some ⟨g,0,none⟩) (n+n') f/\valF f (n+n')=valF a n*valF b n' /\(∀j,f j<4294967296)/\Below w.heap.size w w'):=by
 obtain⟨N,hN⟩:∃N,n+n' =N:=⟨_,rfl⟩;have eN:(n:Int)+(n' :Int)=(N:Int):=oQ
 rw [hN]
 have HMk:∀w,(Instr.makeSlice 231 (.int .i64 (N:Int)) (.int .i64 (N:Int))).run Tryz.prog w=.ok (.slice (some ⟨w.heap.size,0,none⟩) N N) (w.alloc (.cells (madeCells #[.int .u64 0] N) 188)):=fun w=>
  run_make_row' _ _ (.int .u64 0) 8 Tryz.underlying231 Tryz.infoU64 rfl .i64 .i64 N oQ oQ w
 have HSa:=hdQ sa;have HSb:=hdQ sb;clear sa sb;obtain⟨ba,oa,rfl,hba,hca⟩:=ha hn;obtain⟨bb,ob,rfl,hbb,hcb⟩:=hb hn';have HCa:=hdQ hca;have HCb:=hdQ hcb;clear hca hcb ha hb
 go_enter Tryz.func182,Tryz.ntmps182
 go_wp2_with fail
 have hG0:Blk (w.alloc (.cells (madeCells #[.int .u64 0] N) 188)) w.heap.size 188 (qce (fun _=>0) N).toArray:=by
  rw [qp3]
  exact Blk.new rfl rfl
 have hb0:Below w.heap.size w (w.alloc (.cells (madeCells #[.int .u64 0] N) 188)):=bel
 go_loopw [6] (fun i wr=>∃(k:Nat) (f:Nat->Nat),k<=n/\i=.int .i64 k/\Blk wr w.heap.size 188 (qce f N).toArray/\Hid (TmO a b f N n' k)/\Below w.heap.size w wr) (fun i _=>n-(intOf i).toNat)
 case atStart=>exact ⟨0,fun _=>0,zly _,rfl,hG0,qta a b N n',hb0⟩
 case round=>
  clear hG0 hb0;obtain⟨i,f0,hi,rfl,hG,hO,hb⟩:=hrel
  by_cases hlt:i<n
  · have hi0:(i:Int)<(n:Int):=oQ
    go_wp2_with fail
    go_loopw [7,8] (fun cv kv wr=>∃(k c:Nat) (f:Nat->Nat),k<=n' /\kv=.int .i64 k/\cv=.int .u64 c/\Blk wr w.heap.size 188 (qce f N).toArray/\Hid (TmI a b f N n' i k c)/\Below w.heap.size w wr) (fun _ kv _=>n' - (intOf kv).toNat)
    case atStart=>exact ⟨0,0,f0,zly _,rfl,rfl,hG,qwb hO.out,hb⟩
    case round=>
     clear hG hO hb;obtain⟨k,c,f,hk,rfl,rfl,hG,hI,hb⟩:=hrel;have lG:=hG.lt;have fG:=hG.frozen
     by_cases hlt2:k<n'
     · have hk0:(k:Int)<(n' :Int):=oQ
       have haw:ba<w.heap.size:=oQ
       have hbw:bb<w.heap.size:=oQ
       have c0:=(hb.cell (p:=⟨ba,oa+i,none⟩) haw).trans (HCa.out i hlt);have c1:=(hb.cell (p:=⟨bb,ob+k,none⟩) hbw).trans (HCb.out k hlt2);have haw2:ba<wr.heap.size:=oQ
       have hbw2:bb<wr.heap.size:=oQ
       have hne1:ba≠w.heap.size:=oQ
       have hne2:bb≠w.heap.size:=oQ
       have hsN:i+k<N:=oQ
       have c2:=hG.cell (i+k);rw [lta,qhg hsN] at c2;have hst:=qu9 (HSa.out i hlt) (HSb.out k hlt2) hlt2 (show i+n' <N by omega) hI.out
       obtain⟨t1,t2,t3⟩:=qoi (HSa.out i hlt) (HSb.out k hlt2) hI.out;obtain⟨x,ex⟩:∃z,a i=z:=⟨_,rfl⟩;obtain⟨y,ey⟩:∃z,b k=z:=⟨_,rfl⟩;obtain⟨z,ez⟩:∃u,f (i+k)=u:=⟨_,rfl⟩;rw [ex] at c0 hst t1 t2 t3;rw [ey] at c1 hst t1 t2 t3;rw [ez] at c2 hst t1 t3;obtain⟨s,es⟩:∃u,i+k=u:=⟨_,rfl⟩;rw [es] at c2 hst hsN;obtain⟨P,eP⟩:∃u,x*y=u:=⟨_,rfl⟩;rw [eP] at hst t1 t2 t3;obtain⟨Q,eQ⟩:∃u,P+z=u:=⟨_,rfl⟩;rw [eQ] at hst t1 t3;obtain⟨V,eV⟩:∃u,Q+c=u:=⟨_,rfl⟩;rw [eV] at hst t1;have w1:IntKind.u64.wrap ((x:Int)*(y:Int))=(P:Int):=by rw [<-Int.natCast_mul,eP];exact qkp _ t2
       have w2:IntKind.u64.wrap ((P:Int)+(z:Int))=(Q:Int):=by rw [<-Int.natCast_add,eQ];exact qkp _ t3
       have w3:IntKind.u64.wrap ((Q:Int)+(c:Int))=(V:Int):=by rw [<-Int.natCast_add,eV];exact qkp _ t1
       have w4:IntKind.i64.wrap ((i:Int)+(k:Int))=(s:Int):=by rw [IntKind.wrap_i64];omega
       have w5:=Mul64.maskN V t1;have w6:=Mul64.divN V;have hs0:(s:Int)<(N:Int):=oQ
       obtain⟨lo,elo⟩:∃u,V%4294967296=u:=⟨_,rfl⟩;obtain⟨hi',ehi⟩:∃u,V/4294967296=u:=⟨_,rfl⟩;rw [elo] at hst w5;rw [ehi] at hst w6;have HST:=hdQ hst;clear hst ex ey ez es eP eQ eV elo ehi t1 t2 t3;go_wp2_with fail;refine qab kr kr pq ?_
       simp only [zdy,zey,ldz,lds,bare,qam,lcz,lcs,zay]
       repeat' ((try simp only [Act.put,lsi,lsz,lss]);first|(refine lqx ?_)|(refine qac qaa rfl (fun K hK=> ?_);go_simp;((first|fail|skip)<;>(refine hK.out _ _ bel ?_;clear hK K))))
       (all_goals try simp only [Act.put,lsi,lsz,lss]);all_goals(refine qaf ?_)
       go_wp2
       go_roundw
       case rel=>exact ⟨k+1,hi',updF f s lo,by omega,by go_num,rfl,(hG.set_ s _).eq_ (qkd f N s lo),HST.out,bel⟩
       case measure=>simp [intOf];omega
     · have hkn:k=n' :=oQ
       subst hkn;have hend:=qwc (show i+k<N by omega) hI.out
       have hsN:i+k<N:=oQ
       obtain⟨s,es⟩:∃u,i+k=u:=⟨_,rfl⟩;rw [es] at hend hsN;have w4:IntKind.i64.wrap ((i:Int)+(k:Int))=(s:Int):=by rw [IntKind.wrap_i64];omega
       have hs0:(s:Int)<(N:Int):=oQ
       have c2:=hG.cell s;rw [lta,qhg hsN] at c2;have HE:=hdQ hend;clear hend es;go_wp2
       go_roundw
       case rel=>exact ⟨i+1,updF f s c,by omega,by go_num,(hG.set_ s _).eq_ (qkd f N s c),HE.out,bel⟩
       case measure=>simp [intOf];omega
  · have hin:i=n:=oQ
    subst hin;have HV:=hdQ hO.out.val;have HSm:=hdQ hO.out.small;have HNf:Hid (NatF wr wr.heap.size (some ⟨w.heap.size,0,none⟩) N f0):=qke f0 hG (fun k hk=>by rw [lta];exact qhg hk)
    clear hO hG;go_wp2;go_ret;exact⟨_,_,f0,rfl,HNf.out,HV.out,HSm.out,hb⟩
theorem quv (x g:Nat) (w:World) (hx:x<18446744073709551616) (hg:w.heap[g]? =some (.cells #[.int .u64 x] 188 (0,0))):
 C9 183 #[.slice (some ⟨g,0,none⟩) 1 1] w (fun e w' =>∃A' c',e=.returned (.slice A' 2 c')/\NatF w' w'.heap.size A' 2 (qfi fun _=>x)/\Below w.heap.size w w'):=
 qqr w.heap.size 1 1 _ (fun _=>x) w (qke _ hg (by intro k hk;match k,hk with|0,_=>rfl)) (zhy _) dE (fun _ _=>hx)
theorem qh9 {f:Nat->Nat} {n:Nat} (h:∀k,k<n->f k<18446744073709551616):∀j,j<2*n->qfi f j<4294967296:=by
 intro j hj;unfold qfi;have:=h (j/2) oQ
 split<;>omega
theorem qiv (x:Nat):valF (qfi fun _=>x) 2=x:=by
 simp [valF,qfi]
 omega
theorem qvu (B n c:Nat) (A:Option Addr) (f:Nat->Nat) (w:World) (hl:NatF w B A n f) (hB:B<=w.heap.size) (hn:n<=1000) (hk:1<n) (hf:∀k,k<n->f k<4294967296):
 C9 184 #[.slice A n c,.int .i64 0] w (Ret w (.int .u64 ((f 0+f 1*4294967296:Nat):Int))):=qo1 B n c 0 A f w hl hB hn hk hf
theorem qud (B n c:Nat) (A:Option Addr) (f:Nat->Nat) (w:World) (hl:NatF w B A n f) (hB:B<=w.heap.size) (hn:n<=1000) (hk:3<n) (hf:∀k,k<n->f k<4294967296):
 C9 184 #[.slice A n c,.int .i64 1] w (Ret w (.int .u64 ((f 2+f 3*4294967296:Nat):Int))):=qo1 B n c 1 A f w hl hB hn hk hf
theorem val4 {f:Nat->Nat} {v:Nat} (h:valF f 4=v) (hs:∀j,f j<4294967296):f 0+f 1*4294967296=v%18446744073709551616/\f 2+f 3*4294967296=v/18446744073709551616:=by
 simp only [valF] at h;have h0:=hs 0;have h1:=hs 1;have h2:=hs 2;have h3:=hs 3
 omega
theorem qtl (a b:Nat) (ha:a<18446744073709551616) (hb:b<18446744073709551616) (w:World):
 C9 181 #[.int .u64 a,.int .u64 b] w (Ret w (uV (a*b))):=by
 have HA:=hdQ (fun w g hg=>quv a g w ha hg)
 have HB:=hdQ (fun w g hg=>quv b g w hb hg)
 have HSa:=hdQ (qh9 (f:=fun _=>a) (n:=1) (fun _ _=>ha))
 have HSb:=hdQ (qh9 (f:=fun _=>b) (n:=1) (fun _ _=>hb))
 simp only [uV]
 obtain⟨Hi,eH⟩:∃z,a*b/18446744073709551616=z:=⟨_,rfl⟩;obtain⟨Lo,eL⟩:∃z,a*b%18446744073709551616=z:=⟨_,rfl⟩
 rw [eH,eL]
 have EH:=hdQ eH;have EL:=hdQ eL;clear eH eL ha hb
 go_enter Tryz.func181,Tryz.ntmps181
 go_wp2_with (first|(go_at_call 183;have _h:=hza;refine(HB.out _ _ ?_).mono ?_;exact qa5 sI;rintro e wb ⟨Ab,cb,rfl,hNb,hbb⟩;have hzb:=hbb.size;(try simp at hzb))|(go_at_call 183;refine(HA.out _ _ ?_).mono ?_;exact qa5 sI;rintro e wa ⟨Aa,ca,rfl,hNa,hba⟩;have hza:=hba.size;(try simp at hza))|(go_at_call 182;refine(qq1 wb.heap.size 2 ca 2 cb Aa Ab _ _ wb ((hNa.below bel).up oQ) hNb (zhy _) dE dE dE dE HSa.out HSb.out).mono ?_;rintro e wt ⟨gt,ct,f,rfl,hNt,hV,hS,hbt⟩;have hzt:=hbt.size))
 rw [qiv,qiv] at hV;obtain⟨j0,j1⟩:=val4 hV hS;rw [EL.out] at j0;rw [EH.out] at j1
 have HJ1:Hid (∀w',Below wt.heap.size wt w' ->C9 184 #[.slice (some ⟨gt,0,none⟩) 4 ct,.int .i64 1] w' (Ret w' (.int .u64 Hi))):=fun w' hb=>by
  have h:=qud wt.heap.size 4 ct _ f w' (hNt.below hb) hb.size dE dE (fun k _=>hS k)
  rw [j1] at h;exact h
 have HJ0:Hid (∀w',Below wt.heap.size wt w' ->C9 184 #[.slice (some ⟨gt,0,none⟩) 4 ct,.int .i64 0] w' (Ret w' (.int .u64 Lo))):=fun w' hb=>by
  have h:=qvu wt.heap.size 4 ct _ f w' (hNt.below hb) hb.size dE dE (fun k _=>hS k)
  rw [j0] at h;exact h
 have hlt:w.heap.size<wt.heap.size:=oQ
 have hR:Blk wt w.heap.size 218 #[.int .u64 0,.int .u64 0]:=blkA;have hbw:Below w.heap.size w wt:=bel;have cR:=hR.cell;have fR:=hR.frozen;clear hba hbb hbt j0 j1 hV hS hNt hNa hNb HA HB HSa HSb
 go_wp2_with (first|(go_at_call 184;(with_reducible refine(HJ1.out _ ?_).mono ?_);exact bel;rintro e wx ⟨rfl,hbx⟩;obtain⟨hcx,hfx,hzx⟩:=bc3 hbx;(try simp at hzx);have hyx0:=ol1 w wx)|(go_at_call 184;(with_reducible refine(HJ0.out _ ?_).mono ?_);exact bel;rintro e wy ⟨rfl,hby⟩;obtain⟨hcy,hfy,hzy⟩:=bc3 hby;(try simp at hzy);have hyy0:=ol1 w wy))
 refine qcz (R:=fun w2=>Blk w2 (w.heap.size) 218 #[.int .u64 Hi,.int .u64 Lo]/\Below w.heap.size w w2) ⟨?_,bel⟩ ?_
 · repeat(first|with_reducible exact qiy (x:=.int .u64 0) (y:=.int .u64 0) blkA|(with_reducible refine Blk.new ?_ rfl;focus(simp;done))|with_reducible refine Blk.alloc ?_ _|with_reducible refine Blk.drew ?_)
 rintro w2 ⟨HR,hb2⟩;obtain⟨r0,r1⟩:=ce2 HR;exact bodyPost_ret (v:=.agg #[.int .u64 Hi,.int .u64 Lo]) (by simp [results,Tryz.results181,go_sem,r0,r1]) rfl ⟨rfl,hb2⟩
theorem qrh (a b:Nat) (ha:a<340282366920938463463374607431768211456) (hb:b<340282366920938463463374607431768211456) (w:World):
 C9 180 #[uV a,uV b] w (Ret w (.int .i64 (sgn ((a:Int)-(b:Int))))):=by
 have ea:a=a/18446744073709551616*18446744073709551616+a%18446744073709551616:=oQ
 have eb:b=b/18446744073709551616*18446744073709551616+b%18446744073709551616:=oQ
 have h1:a%18446744073709551616<18446744073709551616:=oQ
 have h2:b%18446744073709551616<18446744073709551616:=oQ
 simp only [uV]
 obtain⟨x1,e1⟩:∃z,a/18446744073709551616=z:=⟨_,rfl⟩;obtain⟨x0,e0⟩:∃z,a%18446744073709551616=z:=⟨_,rfl⟩;obtain⟨y1,e3⟩:∃z,b/18446744073709551616=z:=⟨_,rfl⟩;obtain⟨y0,e2⟩:∃z,b%18446744073709551616=z:=⟨_,rfl⟩;rw [e1,e0] at ea;rw [e3,e2] at eb;rw [e0] at h1;rw [e2] at h2
 rw [e1,e0,e3,e2]
 clear e0 e1 e2 e3 ha hb
 rcases Nat.lt_trichotomy a b with h|h|h
 · have H:Hid (sgn ((a:Int)-(b:Int))= -1):=by unfold Hid sgn;rw [if_pos oQ]
   rw [H.out]
   rcases zry x1 y1 with hh|hh
   · have k1:(x1:Int)<y1:=oQ
     clear h ea eb
     go_enter Tryz.func180,Tryz.ntmps180
     go_wp2;go_ret;exact⟨rfl,bel⟩
   · have k1:¬ (x1:Int)<y1:=oQ
     have k2:x1=y1:=oQ
     have k3:(x0:Int)<y0:=oQ
     clear h ea eb hh k1;subst k2
     go_enter Tryz.func180,Tryz.ntmps180
     go_wp2;go_ret;exact⟨rfl,bel⟩
 · have H:Hid (sgn ((a:Int)-(b:Int))=0):=by subst h;unfold Hid sgn;rw [if_neg oQ,if_neg oQ]
   rw [H.out]
   have k1:x1=y1:=oQ
   have k2:x0=y0:=oQ
   clear h ea eb H;subst k1;subst k2
   go_enter Tryz.func180,Tryz.ntmps180
   go_wp2;go_ret;exact⟨rfl,bel⟩
 · have H:Hid (sgn ((a:Int)-(b:Int))=1):=by unfold Hid sgn;rw [if_neg oQ,if_pos oQ]
   rw [H.out]
   have k1:¬ (x1:Int)<y1:=oQ
   by_cases hh:x1=y1
   · have k3:¬ (x0:Int)<y0:=oQ
     have k4:¬ x0=y0:=oQ
     clear h ea eb k1 H;subst hh
     go_enter Tryz.func180,Tryz.ntmps180
     go_wp2;go_ret;exact⟨rfl,bel⟩
   · clear h ea eb H
     go_enter Tryz.func180,Tryz.ntmps180
     go_wp2;go_ret;exact⟨rfl,bel⟩
end Go.Proofs.YteodamnfgcnmmaaGreat
