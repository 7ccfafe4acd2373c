/-Contracts of package ratio: common.-/
import Derived.Test.YtfnhnjbkkggbeaaGreatHWide
import Derived.Test.YtfnhnjbkkggbeaaGreatHBits2
import Derived.StillTailTactics
set_option linter.unusedVariables false
set_option linter.unusedSimpArgs false
set_option maxHeartbeats 2000000
set_option maxRecDepth 20000
namespace Go.Proofs.YtfnhnjbkkggbeaaGreat
open Go.RowKit Pg
theorem qw3 (a b:Nat) (ha:a<18446744073709551616) (hb:b<18446744073709551616) (w:World):
 C9 151 #[.int .u64 a,.int .u64 b] w (Ret w (.int .u64 (Nat.gcd a b))):=by
 go_enter Tryz.func151,Tryz.ntmps151
 go_wp2
 go_loopw [0,1] (fun u v wr=>∃x y:Nat,u=.int .u64 x/\v=.int .u64 y/\x<18446744073709551616/\y<18446744073709551616/\Hid (Nat.gcd x y=Nat.gcd a b)/\Below w.heap.size w wr) (fun _ v _=>(intOf v).toNat)
 case atStart=>exact ⟨a,b,rfl,rfl,ha,hb,rfl,Below.refl _ _⟩
 case round=>
  obtain⟨x,y,rfl,rfl,hx,hy,hg,hb⟩:=hrel
  by_cases hz:y=0
  · subst hz
    have HG:Hid (Nat.gcd a b=x):=by have:=hg.out;unfold Hid;rw [<-this,Nat.gcd_zero_right]
    go_wp2;go_ret;exact⟨by rw [HG.out];rfl,bel⟩
  · have hz1:((y:Int) !=0)=true:=by rw [bne_iff_ne];omega
    have hz2:¬ (y:Int)=0:=oQ
    have hm:(x:Int).tmod (y:Int)=((x%y:Nat):Int):=by rw [Int.ofNat_tmod]
    have hlt:x%y<y:=Nat.mod_lt _ oQ
    go_wp2_with fail;refine qac kr kr pq ?_
    simp only [zdy,zey,ldz,lds,bare,qaj,lcz,lcs,zay]
    repeat' ((try simp only [Act.put,lsi,lsz,lss]);first|(refine lqx ?_)|(refine qab qaa rfl (fun K hK=> ?_);go_simp;((first|fail|skip)<;>(refine hK.out _ _ bel ?_;clear hK K))))
    (all_goals try simp only [Act.put,lsi,lsz,lss]);all_goals(refine qad ?_)
    go_wp2
    go_roundw
    case rel=>exact ⟨y,x%y,rfl,by go_num,hy,by omega,by have:=hg.out;unfold Hid;rw [<-this,Nat.gcd_comm y,<-Nat.gcd_rec,Nat.gcd_comm],bel⟩
    case measure=>simp [intOf];omega
abbrev fV (a:Fr):Value:=.agg #[.int .u64 ((a.num/18446744073709551616:Nat):Int),.int .u64 ((a.num%18446744073709551616:Nat):Int),.int .u64 (a.den:Int)]
theorem q50 (H L d:Nat) (hH:H<18446744073709551616) (hL:L<18446744073709551616) (hd:0<d):
 (H%d*18446744073709551616+L)/d<18446744073709551616/\(H*18446744073709551616+L)/d=H/d*18446744073709551616+(H%d*18446744073709551616+L)/d/\(H*18446744073709551616+L)%d=(H%d*18446744073709551616+L)%d:=by
 have h1:=Nat.div_add_mod H d;have hm:=Nat.mod_lt H hd
 have e:H*18446744073709551616+L=(H%d*18446744073709551616+L)+d*(H/d*18446744073709551616):=by
  have:(d*(H/d)+H%d)*18446744073709551616=H*18446744073709551616:=by rw [h1]
  rw [Nat.add_mul,Nat.mul_assoc] at this;generalize d*(H/d*18446744073709551616)=X at*;generalize H%d=Y at*
  omega
 refine⟨?_,?_,?_⟩
 · rw [Nat.div_lt_iff_lt_mul hd]
   have:(H%d+1)*18446744073709551616<=d*18446744073709551616:=zuy _ hm
   rw [Nat.mul_comm 18446744073709551616 d]
   omega
 · conv=>lhs;rw [e]
   rw [Nat.add_mul_div_left _ _ hd,Nat.add_comm]
 · conv=>lhs;rw [e]
   rw [Nat.add_mul_mod_self_left]
theorem q74 (q lo:Nat) (h:lo<18446744073709551616):(q*18446744073709551616+lo)/18446744073709551616=q/\(q*18446744073709551616+lo)%18446744073709551616=lo:=oQ
theorem q4h (n d:Nat) (hn:n<340282366920938463463374607431768211456) (hd0:0<d) (hd:d<18446744073709551616) (w:World):
 C9 150 #[uV n,.int .u64 d] w (Ret w (.tuple #[uV (n/d),.int .u64 ((n%d:Nat):Int)])):=by
 have en:n=n/18446744073709551616*18446744073709551616+n%18446744073709551616:=oQ
 have hHlt:n/18446744073709551616<18446744073709551616:=oQ
 have hLlt:n%18446744073709551616<18446744073709551616:=oQ
 simp only [uV]
 obtain⟨H,eH⟩:∃H,n/18446744073709551616=H:=⟨_,rfl⟩;obtain⟨L,eL⟩:∃H,n%18446744073709551616=H:=⟨_,rfl⟩
 rw [eH] at en hHlt ⊢
 rw [eL] at en hLlt ⊢
 clear eH eL hn;subst en;obtain⟨m1,m2,m3⟩:=q50 H L d hHlt hLlt hd0;have hr:=Nat.mod_lt H hd0;have hq:=Nat.div_le_self H d
 rw [m2,m3]
 have HD:=hdQ (fun w=>q0c (H%d) L d hLlt hd hr w)
 obtain⟨r,er⟩:∃q,H%d=q:=⟨_,rfl⟩
 rw [er] at HD m1 hr ⊢
 obtain⟨lo,elo⟩:∃q,(r*18446744073709551616+L)/d=q:=⟨_,rfl⟩;obtain⟨re,ere⟩:∃q,(r*18446744073709551616+L)%d=q:=⟨_,rfl⟩;rw [elo] at m1
 rw [elo,ere] at HD ⊢
 have hz1:((d:Int) !=0)=true:=by rw [bne_iff_ne];omega
 have hz2:¬ (d:Int)=0:=oQ
 have hz7:¬ d=0:=oQ
 have k1:IntKind.u64.wrap ((H:Int)/(d:Int))=((H/d:Nat):Int):=by rw [<-Int.natCast_ediv];exact qau _ oQ
 have k3:(H:Int).tmod (d:Int)=(r:Int):=by rw [<-Int.ofNat_tmod,er]
 obtain⟨q,eq⟩:∃q,H/d=q:=⟨_,rfl⟩
 rw [eq] at k1 ⊢
 obtain⟨e1,e2⟩:=q74 q lo m1
 rw [e1,e2]
 clear m1 m2 m3 hr hq er elo ere e1 e2 hHlt hLlt eq
 go_enter Tryz.func150,Tryz.ntmps150
 go_wp2_with fail;refine qac kr kr pq ?_
 simp only [zdy,zey,ldz,lds,bare,qaj,lcz,lcs,zay]
 repeat' ((try simp only [Act.put,lsi,lsz,lss]);first|(refine lqx ?_)|(refine qab qaa rfl (fun K hK=> ?_);go_simp;((first|(go_at_call 157;refine(HD.out _).monoR ?_;rintro w1 hb1 hc1 hf1 hz1;(try simp at hz1);obtain⟨hy0,hy1⟩:=ol2 w w1)|skip)<;>(refine hK.out _ _ bel ?_;clear hK K))))
 (all_goals try simp only [Act.put,lsi,lsz,lss]);all_goals(refine qad ?_)
 go_wp2_with fail;refine qai (R:=fun w2=>Blk w2 (w.heap.size+1) 173 #[.int .u64 q,.int .u64 lo]/\Below w.heap.size w w2) ⟨?_,bel⟩ ?_
 · repeat(first|with_reducible exact qdr (x:=.int .u64 0) (y:=.int .u64 0) blkA|(with_reducible refine Blk.new ?_ rfl;focus(simp;done))|with_reducible refine Blk.alloc ?_ _|with_reducible refine Blk.drew ?_)
 rintro w2 ⟨HR,hb2⟩;obtain⟨r0,r1⟩:=ce2 HR;exact bodyPost_ret (v:=.tuple #[.agg #[.int .u64 q,.int .u64 lo],.int .u64 re]) (by simp [results,Tryz.results150,go_sem,r0,r1]) rfl ⟨rfl,hb2⟩
theorem qwf (n d:Nat) (hn:n<340282366920938463463374607431768211456) (hd0:0<d) (hd:d<18446744073709551616) (w:World):
 C9 133 #[uV n,.int .u64 d] w (Ret w (fV (lowF n d))):=by
 have hr:=Nat.mod_lt n hd0;have hg:0<Nat.gcd d (n%d):=Nat.gcd_pos_of_pos_left _ hd0;have hgl:Nat.gcd d (n%d)<=d:=Nat.le_of_dvd hd0 (Nat.gcd_dvd_left _ _);have H1:=hdQ (fun w=>q4h n d hn hd0 hd w)
 have H2:=hdQ (fun w=>qw3 d (n%d) hd oQ w)
 have H3:=hdQ (fun w=>q4h n (Nat.gcd d (n%d)) hn hg oQ w)
 have hq:=Nat.div_le_self d (Nat.gcd d (n%d));unfold lowF fV
 simp only
 obtain⟨r,er⟩:∃r,n%d=r:=⟨_,rfl⟩
 rw [er] at H1 H2 H3 hg hgl hq ⊢
 obtain⟨g,eg⟩:∃g,Nat.gcd d r=g:=⟨_,rfl⟩
 rw [eg] at H2 H3 hg hgl hq ⊢
 obtain⟨x0,e0⟩:∃r,n/d/18446744073709551616=r:=⟨_,rfl⟩;obtain⟨x1,e1⟩:∃r,n/d%18446744073709551616=r:=⟨_,rfl⟩;obtain⟨x2,e2⟩:∃r,n/g/18446744073709551616=r:=⟨_,rfl⟩;obtain⟨x3,e3⟩:∃r,n/g%18446744073709551616=r:=⟨_,rfl⟩;obtain⟨x4,e4⟩:∃r,n%g=r:=⟨_,rfl⟩;obtain⟨x5,e5⟩:∃r,n/18446744073709551616=r:=⟨_,rfl⟩;obtain⟨x6,e6⟩:∃r,n%18446744073709551616=r:=⟨_,rfl⟩
 simp only [uV] at H1 H3 ⊢
 rw [e0,e1,e5,e6] at H1;rw [e2,e3,e4,e5,e6] at H3
 rw [e2,e3,e5,e6]
 have k1:IntKind.u64.wrap ((d:Int)/(g:Int))=((d/g:Nat):Int):=by rw [<-Int.natCast_ediv];exact qau _ oQ
 obtain⟨x7,e7⟩:∃r,d/g=r:=⟨_,rfl⟩
 rw [e7] at k1 ⊢
 have hz1:¬ g=0:=oQ
 clear hn hd0 hd hr er eg hgl hg hq e0 e1 e2 e3 e4 e5 e6 e7
 go_enter Tryz.func133,Tryz.ntmps133
 go_wp2_with (first|(go_at_call 151;refine(H2.out _).monoR ?_;rintro w1 hb1 hc1 hf1 hz1;(try simp at hz1);obtain⟨hy0,hy1⟩:=ol2 w w1)|(go_at_call 150;have _h:=hza;refine(H3.out _).monoR ?_;rintro w1 hb1 hc1 hf1 hz1;(try simp at hz1);obtain⟨hy0,hy1⟩:=ol2 w w1)|(go_at_call 150;refine(H1.out _).monoR ?_;rintro wa hba hca hfa hza;(try simp at hza);obtain⟨hya,hya1⟩:=ol2 w wa))
 have hlt1:w.heap.size+1<w1.heap.size:=oQ
 refine qfo (fun w2=>Below w.heap.size w w2/\Blk w2 (w.heap.size+1) 71 #[.int .u64 0,.int .u64 0,.int .u64 0]/\Blk w2 w1.heap.size 173 #[.int .u64 x2,.int .u64 x3]) ⟨bel,blkA,blkA⟩ ?_
 clear hb1 hc1 hf1 hba hca hfa H1 H2 H3;rintro w2 ⟨hb,hZ,hU⟩;have cZ:=hZ.cell;have fZ:=hZ.frozen;have lZ:=hZ.lt;have cU:=hU.cell;have lU:=hU.lt
 go_still_tail 7,kr
 change wpList _ _ _ _ _ w2.drew
 go_wp2;refine qai (R:=fun w2=>Blk w2 (w.heap.size+1) 71 #[.int .u64 x2,.int .u64 x3,.int .u64 x7]/\Below w.heap.size w w2) ⟨?_,bel⟩ ?_
 · repeat(first|with_reducible exact qat (x:=.int .u64 0) (y:=.int .u64 0) (z:=.int .u64 0) blkA|(with_reducible refine Blk.new ?_ rfl;focus(simp;done))|with_reducible refine Blk.alloc ?_ _|with_reducible refine Blk.drew ?_)
 rintro w2 ⟨HR,hb2⟩;obtain⟨r0,r1,r2⟩:=ce3 HR;exact bodyPost_ret (v:=.agg #[.int .u64 x2,.int .u64 x3,.int .u64 x7]) (by simp [results,Tryz.results133,go_sem,r0,r1,r2]) rfl ⟨rfl,hb2⟩
theorem q5g {n d:Nat} (hn:n<340282366920938463463374607431768211456) (hd0:0<d) (hd:d<18446744073709551616):(lowF n d).num<340282366920938463463374607431768211456/\(lowF n d).den<18446744073709551616:=by
 obtain⟨_,_,h1,h2⟩:=qot (n:=n) hd0
 omega
theorem qup (n d:Nat) (hn:n<340282366920938463463374607431768211456) (hd0:0<d) (hd:d<18446744073709551616) (w:World):
 C9 101 #[uV n,.int .u64 d] w (Ret w (.tuple #[fV (lowF n d),.nilIface])):=by
 have H1:=hdQ (fun w=>qwf n d hn hd0 hd w)
 have hz1:((d:Int)==0)=false:=by rw [beq_eq_false_iff_ne];omega
 have hz2:¬ d=0:=oQ
 unfold fV at*;obtain⟨x5,e5⟩:∃r,n/18446744073709551616=r:=⟨_,rfl⟩;obtain⟨x6,e6⟩:∃r,n%18446744073709551616=r:=⟨_,rfl⟩
 simp only [uV] at H1 ⊢
 rw [e5,e6] at H1 ⊢
 obtain⟨x2,e2⟩:∃r,(lowF n d).num/18446744073709551616=r:=⟨_,rfl⟩;obtain⟨x3,e3⟩:∃r,(lowF n d).num%18446744073709551616=r:=⟨_,rfl⟩;obtain⟨x4,e4⟩:∃r,(lowF n d).den=r:=⟨_,rfl⟩
 rw [e2,e3,e4] at H1 ⊢
 clear hn hd0 hd e2 e3 e4 e5 e6
 go_enter Tryz.func101,Tryz.ntmps101
 go_wp2_with (go_at_call 133;refine(H1.out _).monoR ?_;rintro w1 hb1 hc1 hf1 hz1;(try simp at hz1);obtain⟨hy0,hy1⟩:=ol2 w w1)
 refine qai (R:=fun w2=>Blk w2 (w.heap.size+1) 71 #[.int .u64 x2,.int .u64 x3,.int .u64 x4]/\Below w.heap.size w w2) ⟨?_,bel⟩ ?_
 · repeat(first|with_reducible exact qat (x:=.int .u64 0) (y:=.int .u64 0) (z:=.int .u64 0) blkA|(with_reducible refine Blk.new ?_ rfl;focus(simp;done))|with_reducible refine Blk.alloc ?_ _|with_reducible refine Blk.drew ?_)
 rintro w2 ⟨HR,hb2⟩;obtain⟨r0,r1,r2⟩:=ce3 HR;exact bodyPost_ret (v:=.tuple #[.agg #[.int .u64 x2,.int .u64 x3,.int .u64 x4],.nilIface]) (by simp [results,Tryz.results101,go_sem,r0,r1,r2]) rfl ⟨rfl,hb2⟩
theorem qsz:fV ⟨0,1⟩=.agg #[.int .u64 0,.int .u64 0,.int .u64 1]:=by simp [fV]
theorem q5d (w:World):C9 63 #[.int .i64 0] w (Ret w (fV ⟨0,1⟩)):=by
 have H1:Hid (∀w,C9 97 #[.int .i64 0] w (Ret w (.agg #[.int .u64 0,.int .u64 0]))):=fun w=>by
  have h:=qez 0 dE dE w
  simp only [uV,Int.natAbs_zero,Nat.mul_zero,Nat.zero_div,Nat.zero_mod] at h;exact h
 rw [qsz]
 go_enter Tryz.func63,Tryz.ntmps63
 go_wp2_with (go_at_call 97;refine(H1.out _).monoR ?_;rintro w1 hb1 hc1 hf1 hz1;(try simp at hz1);have hy0:=ol1 w w1)
 refine qai (R:=fun w2=>Blk w2 (w.heap.size) 71 #[.int .u64 0,.int .u64 0,.int .u64 1]/\Below w.heap.size w w2) ⟨?_,bel⟩ ?_
 · repeat(first|with_reducible exact qat (x:=.int .u64 0) (y:=.int .u64 0) (z:=.int .u64 0) blkA|(with_reducible refine Blk.new ?_ rfl;focus(simp;done))|with_reducible refine Blk.alloc ?_ _|with_reducible refine Blk.drew ?_)
 rintro w2 ⟨HR,hb2⟩;obtain⟨r0,r1,r2⟩:=ce3 HR;exact bodyPost_ret (v:=.agg #[.int .u64 0,.int .u64 0,.int .u64 1]) (by simp [results,Tryz.results63,go_sem,r0,r1,r2]) rfl ⟨rfl,hb2⟩
theorem qo3 (a b:Nat) (w:World):
 C9 153 #[.int .u64 a,.int .u64 b] w fun e w' =>e=.returned (.int .i64 (sgn ((a:Int)-(b:Int))))/\w=w' :=by
 rcases Nat.lt_trichotomy a b with h|h|h
 · have H:Hid (sgn ((a:Int)-(b:Int))= -1):=by unfold Hid sgn;rw [if_pos oQ]
   rw [H.out]
   have h2:(a:Int)<b:=oQ
   go_enter Tryz.func153,Tryz.ntmps153
   go_wp2;go_ret;exact⟨rfl,rfl⟩
 · subst h
   have H:Hid (sgn ((a:Int)-(a:Int))=0):=by unfold Hid sgn;rw [if_neg oQ,if_neg oQ]
   rw [H.out]
   go_enter Tryz.func153,Tryz.ntmps153
   go_wp2;go_ret;exact⟨rfl,rfl⟩
 · have H:Hid (sgn ((a:Int)-(b:Int))=1):=by unfold Hid sgn;rw [if_neg oQ,if_pos oQ]
   rw [H.out]
   have h2:(b:Int)<a:=oQ
   go_enter Tryz.func153,Tryz.ntmps153
   go_wp2;go_ret;exact⟨rfl,rfl⟩
theorem qyy (x y:Int) (g:Nat) (w:World) (hg:w.heap[g]? =some (.cells #[.int .i64 x,.int .i64 y] 3 (0,0))):
 C9 86 #[.slice (some ⟨g,0,none⟩) 2 2] w (Ret w (.int .i64 (if x=0 then y else x))):=by
 have hB:Blk w g 3 #[.int .i64 x,.int .i64 y]:=hg;have hgl:=hB.lt;clear hg;obtain⟨c0,c1⟩:=ce2 hB;obtain⟨F,hF0⟩:∃r:Int,(if x=0 then y else x)=r:=⟨_,rfl⟩
 have hF:=hdQ hF0
 rw [hF0]
 clear hF0
 go_enter Tryz.func86,Tryz.ntmps86
 go_wp2
 go_loopw [8] (fun i wr=>∃k:Nat,k<=2/\i=.int .i64 k/\(1<=k->x=0)/\(k=2->y=0)/\wr=w) (fun i _=>2-(intOf i).toNat)
 case atStart=>exact ⟨0,by decide,rfl,by omega,by omega,rfl⟩
 case round=>
  obtain⟨k,hk,rfl,h1,h2,rfl⟩:=hrel
  match k,hk,h1,h2 with
  | 0,_,h1,h2=>
    clear h1 h2
    by_cases hx:x=0
    · subst hx
      go_wp2
      go_roundw
      case rel=>exact ⟨1,by decide,by first|rfl|go_num,by simp,by simp,by simp⟩
      case measure=>simp [intOf]
    · have hx2:(x !=0)=true:=by rw [bne_iff_ne];exact hx
      go_wp2;go_ret;exact⟨qgb (by rw [<-hF.out,if_neg hx]),Below.refl _ _⟩
  | 1,_,h1,h2=>
    have hx:=h1 dE
    clear h1 h2;subst hx
    by_cases hy:y=0
    · subst hy
      go_wp2
      go_roundw
      case rel=>exact ⟨2,by decide,by first|rfl|go_num,by simp,by simp,by simp⟩
      case measure=>simp [intOf]
    · have hy2:(y !=0)=true:=by rw [bne_iff_ne];exact hy
      go_wp2;go_ret;exact⟨qgb (by rw [<-hF.out];simp),Below.refl _ _⟩
  | 2,_,h1,h2=>
    have hx:=h1 dE
    have hy:=h2 rfl;clear h1 h2;subst hx;subst hy;go_wp2;go_ret;exact⟨qgb (by rw [<-hF.out];simp),Below.refl _ _⟩
theorem q4v {a b c d:Int} (h1:0<=b) (h2:b<18446744073709551616) (h3:0<=d) (h4:d<18446744073709551616):
 (if sgn (a-c)=0 then sgn (b-d) else sgn (a-c))=sgn ((a*18446744073709551616+b)-(c*18446744073709551616+d)):=by
 unfold sgn
 split<;>split<;>(try split)<;>(try split)<;>(try split)<;>omega
theorem q09 (a b:Nat) (ha:a<340282366920938463463374607431768211456) (hb:b<340282366920938463463374607431768211456) (w:World):
 C9 154 #[uV a,uV b] w (Ret w (.int .i64 (sgn ((a:Int)-(b:Int))))):=by
 have HF:Hid ((if sgn (((a/18446744073709551616:Nat):Int)-((b/18446744073709551616:Nat):Int))=0 then sgn (((a%18446744073709551616:Nat):Int)-((b%18446744073709551616:Nat):Int)) else sgn (((a/18446744073709551616:Nat):Int)-((b/18446744073709551616:Nat):Int)))=sgn ((a:Int)-(b:Int))):=by
  unfold Hid
  rw [q4v oQ oQ oQ oQ]
  congr 1
  omega
 rw [<-HF.out]
 simp only [uV]
 obtain⟨x0,e0⟩:∃r,a/18446744073709551616=r:=⟨_,rfl⟩;obtain⟨x1,e1⟩:∃r,a%18446744073709551616=r:=⟨_,rfl⟩;obtain⟨x2,e2⟩:∃r,b/18446744073709551616=r:=⟨_,rfl⟩;obtain⟨x3,e3⟩:∃r,b%18446744073709551616=r:=⟨_,rfl⟩
 rw [e0,e1,e2,e3]
 clear HF e0 e1 e2 e3 ha hb;have H1:=hdQ (fun w=>qo3 x0 x2 w)
 have H2:=hdQ (fun w=>qo3 x1 x3 w)
 obtain⟨s1,e1⟩:∃r,sgn ((x0:Int)-(x2:Int))=r:=⟨_,rfl⟩;obtain⟨s2,e2⟩:∃r,sgn ((x1:Int)-(x3:Int))=r:=⟨_,rfl⟩;rw [e1] at H1;rw [e2] at H2
 rw [e1,e2]
 clear e1 e2;have HO:=hdQ (fun w g hg=>qyy s1 s2 g w hg)
 obtain⟨F,hF⟩:∃r:Int,(if s1=0 then s2 else s1)=r:=⟨_,rfl⟩
 rw [hF] at HO ⊢
 clear hF
 go_enter Tryz.func154,Tryz.ntmps154
 go_wp2_with fail;refine qah [0,1,2,3,5,6,7,8,4,9,10,11,12] kr kr pq ?_
 simp only [zdy,zey,ldz,lds,bare,qaj,lcz,lcs,zay]
 repeat' ((try simp only [Act.put,lsi,lsz,lss]);first|(refine lqx ?_)|(refine qab qaa rfl (fun K hK=> ?_);go_simp;((first|(go_at_call 153;(with_reducible refine(H1.out _).mono ?_);rintro e w1 ⟨rfl,rfl⟩)|(go_at_call 153;(with_reducible refine(H2.out _).mono ?_);rintro e w1 ⟨rfl,rfl⟩)|(go_at_call 86;refine(HO.out _ _ ?_).mono ?_;exact qan sI;rintro e w1 ⟨rfl,hb1⟩;obtain⟨hc1,hf1,hz1⟩:=bc3 hb1;(try simp at hz1);obtain⟨hy0,hy1⟩:=ol2 w w1)|skip)<;>(refine hK.out _ _ bel ?_;clear hK K))))
 (all_goals try simp only [Act.put,lsi,lsz,lss]);all_goals(refine qad ?_)
 go_wp2;go_ret;exact⟨rfl,bel⟩
theorem qvh (A L b:Nat) (hA:A<18446744073709551616) (hL:L<18446744073709551616) (hb:b<18446744073709551616):
 (A*18446744073709551616+L)*b/340282366920938463463374607431768211456=A*b/18446744073709551616+(L*b/18446744073709551616+A*b%18446744073709551616+0)/18446744073709551616/\
 (A*18446744073709551616+L)*b%340282366920938463463374607431768211456/18446744073709551616=(L*b/18446744073709551616+A*b%18446744073709551616+0)%18446744073709551616/\
 (A*18446744073709551616+L)*b%340282366920938463463374607431768211456%18446744073709551616=L*b%18446744073709551616/\
 A*b/18446744073709551616+(L*b/18446744073709551616+A*b%18446744073709551616+0)/18446744073709551616<18446744073709551616/\L*b/18446744073709551616<18446744073709551616/\A*b/18446744073709551616<18446744073709551616:=by
 have e:(A*18446744073709551616+L)*b=A*b*18446744073709551616+L*b:=by grind
 have h1:A*b<=18446744073709551615*18446744073709551615:=Nat.mul_le_mul oQ oQ
 have h2:L*b<=18446744073709551615*18446744073709551615:=Nat.mul_le_mul oQ oQ
 rw [e]
 generalize A*b=X at*;generalize L*b=Y at*
 omega
theorem qm2 (n b:Nat) (hn:n<340282366920938463463374607431768211456) (hb:b<18446744073709551616) (w:World):
 C9 152 #[uV n,.int .u64 b] w (Ret w (.tuple #[.int .u64 ((n*b/340282366920938463463374607431768211456:Nat):Int),uV (n*b%340282366920938463463374607431768211456)])):=by
 have en:n=n/18446744073709551616*18446744073709551616+n%18446744073709551616:=oQ
 have hHlt:n/18446744073709551616<18446744073709551616:=oQ
 have hLlt:n%18446744073709551616<18446744073709551616:=oQ
 simp only [uV]
 obtain⟨A,eH⟩:∃H,n/18446744073709551616=H:=⟨_,rfl⟩;obtain⟨L,eL⟩:∃H,n%18446744073709551616=H:=⟨_,rfl⟩
 rw [eH] at en hHlt ⊢
 rw [eL] at en hLlt ⊢
 clear eH eL hn;subst en;obtain⟨m1,m2,m3,m4,m5,m6⟩:=qvh A L b hHlt hLlt hb
 rw [m1,m2,m3]
 have H1:=hdQ (fun w=>qn1 L b hLlt hb w)
 have H2:=hdQ (fun w=>qn1 A b hHlt hb w)
 simp only [uV] at H1 H2;clear m1 m2 m3;obtain⟨p1,e1⟩:∃r,L*b/18446744073709551616=r:=⟨_,rfl⟩;obtain⟨p0,e0⟩:∃r,L*b%18446744073709551616=r:=⟨_,rfl⟩;obtain⟨q1,e3⟩:∃r,A*b/18446744073709551616=r:=⟨_,rfl⟩;obtain⟨q0,e2⟩:∃r,A*b%18446744073709551616=r:=⟨_,rfl⟩;rw [e1,e0] at H1;rw [e3,e2] at H2
 rw [e1,e0,e3,e2]
 rw [e1,e3,e2] at m4;have A1:=fun w=>q58 p1 q0 0 dE w
 obtain⟨s,es⟩:∃r,(p1+q0+0)%18446744073709551616=r:=⟨_,rfl⟩;obtain⟨c,ec⟩:∃r,(p1+q0+0)/18446744073709551616=r:=⟨_,rfl⟩;rw [es,ec] at A1
 rw [es,ec]
 rw [ec] at m4;have A3:∀w,(callFunc 147 #[.int .u64 p1,.int .u64 q0,.int .u64 0]).run Tryz.prog w=.ok (.value (.tuple #[.int .u64 s,.int .u64 c])) w:=A1;obtain⟨t,et⟩:∃r,q1+c=r:=⟨_,rfl⟩
 rw [et] at m4 ⊢
 have k1:IntKind.u64.wrap ((q1:Int)+(c:Int))=(t:Int):=by rw [<-Int.natCast_add,et,qau _ m4]
 clear A1 m4 m5 m6 e0 e1 e2 e3 es ec et hHlt hLlt hb
 go_enter Tryz.func152,Tryz.ntmps152
 go_wp2_with fail;refine qfo (fun w2=>Below w.heap.size w w2/\Blk w2 w.heap.size 173 #[.int .u64 A,.int .u64 L]/\Blk w2 (w.heap.size+1) 173 #[.int .u64 0,.int .u64 0]) ⟨bel,blkA,blkA⟩ ?_
 rintro w0 ⟨hb0,hU,hR⟩;have hz0:=hb0.size;have cU:=hU.cell;have lR:=hR.lt;have lU:=hU.lt;refine qbf [0,1,2,3,4,5,6,7] [8,9] [10,11] (fun _=> #[.int .u64 0,.int .u64 0]) kr kr pq (by intro i hi w;simp only [List.mem_cons,List.not_mem_nil,or_false] at hi;rcases hi with rfl|rfl<;>simp only [ldz,lds,tyOf]<;>kernel_rfl) (fun KN hKN=> ?_)
 simp only [zdy,zey,ldz,lds,bare,qaj,lcz,lcs,zay]
 repeat((try simp only [Act.put,lsi,lsz,lss]);first|(refine qdj (v:= ?_) rfl ?_ ?_;rotate_left;focus(intro wq hq;obtain⟨hcq,hfq⟩:=qbb hq;go_simp;try with_reducible rfl))|(refine qdz (v:= ?_) rfl ?_ ?_;rotate_left;focus(intro wq hq K hK;obtain⟨hcq,hfq⟩:=qbb hq;go_simp;(first|(go_at_call 131;(with_reducible refine(H1.out _).monoR ?_);rintro w1 hb1 hc1 hf1 hz1;(try simp at hz1))|(go_at_call 131;(with_reducible refine(H2.out _).monoR ?_);rintro w1 hb1 hc1 hf1 hz1;(try simp at hz1)));refine hK.out _ _ ?_ bel;simp only [Act.put,lsi,lsz,lss];try with_reducible rfl)))
 (try simp only [Act.put,lsi,lsz,lss])
 refine qes (hKN.out _ ?_);clear hKN KN;intro gs wf hwf hgs hds
 simp only [zdy,zey,ldz,lds,bare,qaj,lcz,lcs,zay,List.foldl_cons,List.foldl_nil,ptrV]
 obtain⟨hg8,HB8⟩:=hgs 8 dE
 obtain⟨hg9,HB9⟩:=hgs 9 dE
 have hd8x9:=hds 8 dE 9 dE dE
 simp only [ldz,lds,tyOf] at HB8 HB9;clear hgs hds;generalize gs 8=g8 at*;generalize gs 9=g9 at*;have cg8:=HB8.cell;have fg8:=HB8.frozen;have cg9:=HB9.cell;have fg9:=HB9.frozen;have hd9x8:=Ne.symm hd8x9
 repeat((try simp only [Act.put,lsi,lsz,lss]);first|(refine qab qaa rfl (fun K hK=> ?_);go_simp;refine hK.out _ _ bel ?_;clear hK K)|(refine qba (v:= ?_) qaa rfl ?_ ?_;rotate_left;focus(intro wq hq;go_simp;try with_reducible rfl)))
 refine qad ?_;refine qb3 (R:=fun w2=>Below w.heap.size w w2/\Blk w2 g8 173 #[.int .u64 p1,.int .u64 p0]/\Blk w2 g9 173 #[.int .u64 q1,.int .u64 q0]/\Blk w2 (w.heap.size+1) 173 #[.int .u64 0,.int .u64 0]) ⟨bel,((((HB8.set_ 0 _).set_ 1 _).far (p:=⟨g9,0,none⟩) hd8x9 _).far (p:=⟨g9,1,none⟩) hd8x9 _).eq_ sI,((((HB9.far (p:=⟨g8,0,none⟩) hd9x8 _).far (p:=⟨g8,1,none⟩) hd9x8 _).set_ 0 _).set_ 1 _).eq_ sI,blkA⟩ ?_
 rintro w2 ⟨hb2,h8,h9,hE0⟩;clear cg8 fg8 HB8 cg9 fg9 HB9;have cg8:=h8.cell;have fg8:=h8.frozen;have lg8:=h8.lt;have cg9:=h9.cell;have fg9:=h9.frozen;have lg9:=h9.lt;obtain⟨hc2,hf2⟩:=qbb hb2;have cR:=hE0.cell;have fR:=hE0.frozen;have lR2:=hE0.lt;have hn8:g8≠w.heap.size+1:=oQ
 have hn9:g9≠w.heap.size+1:=oQ
 clear H1 H2 hc2 hf2;go_wp2_with fail;refine qed (w.heap.size+1) [0,1,2,3,4,5,6,7,8,9] kr kr pq ?_
 simp only [zdy,zey,ldz,lds,bare,qaj,lcz,lcs,zay]
 repeat' ((try simp only [Act.put,lsi,lsz,lss]);first|(refine qba (v:= ?_) qaa rfl ?_ ?_;rotate_left;focus(intro wq hq;obtain⟨hcq,hfq⟩:=q3w hq;go_simp;try with_reducible rfl))|(refine qab qaa rfl (fun K hK=> ?_);go_simp;((first|fail|skip)<;>(refine hK.out _ _ (by repeat(first|with_reducible exact Away.refl _ _|with_reducible assumption|with_reducible refine Away.drew ?_|with_reducible refine Away.put ?_ _ _|with_reducible refine Away.alloc ?_ _|with_reducible refine Away.below ?_ (by with_reducible assumption))) ?_;clear hK K))))
 (all_goals try simp only [Act.put,lsi,lsz,lss]);all_goals(refine qad ?_)
 go_wp2;refine qai (R:=fun w2=>Blk w2 (w.heap.size+1) 173 #[.int .u64 s,.int .u64 p0]/\Below w.heap.size w w2) ⟨?_,bel⟩ ?_
 · repeat(first|with_reducible exact qdr (x:=.int .u64 0) (y:=.int .u64 0) blkA|(with_reducible refine Blk.new ?_ rfl;focus(simp;done))|with_reducible refine Blk.alloc ?_ _|with_reducible refine Blk.drew ?_)
 rintro w2 ⟨HR,hb2⟩;obtain⟨r0,r1⟩:=ce2 HR;exact bodyPost_ret (v:=.tuple #[.int .u64 t,.agg #[.int .u64 s,.int .u64 p0]]) (by simp [results,Tryz.results152,go_sem,r0,r1]) rfl ⟨rfl,hb2⟩
theorem qx7 (X Y:Nat):(if sgn (((X/340282366920938463463374607431768211456:Nat):Int)-((Y/340282366920938463463374607431768211456:Nat):Int))=0 then sgn (((X%340282366920938463463374607431768211456:Nat):Int)-((Y%340282366920938463463374607431768211456:Nat):Int)) else sgn (((X/340282366920938463463374607431768211456:Nat):Int)-((Y/340282366920938463463374607431768211456:Nat):Int)))=sgn ((X:Int)-(Y:Int)):=by
 have hX:X=X/340282366920938463463374607431768211456*340282366920938463463374607431768211456+X%340282366920938463463374607431768211456:=oQ
 have hY:Y=Y/340282366920938463463374607431768211456*340282366920938463463374607431768211456+Y%340282366920938463463374607431768211456:=oQ
 have h1:X%340282366920938463463374607431768211456<340282366920938463463374607431768211456:=oQ
 have h2:Y%340282366920938463463374607431768211456<340282366920938463463374607431768211456:=oQ
 generalize X/340282366920938463463374607431768211456=a at*;generalize X%340282366920938463463374607431768211456=b at*;generalize Y/340282366920938463463374607431768211456=c at*;generalize Y%340282366920938463463374607431768211456=d at*;subst hX hY;unfold sgn
 split<;>split<;>(try split)<;>(try split)<;>(try split)<;>omega
theorem qs9 (n b m d:Nat) (hn:n<340282366920938463463374607431768211456) (hb:b<18446744073709551616) (hm:m<340282366920938463463374607431768211456) (hd:d<18446744073709551616) (w:World):
 C9 135 #[uV n,.int .u64 b,uV m,.int .u64 d] w (Ret w (.int .i64 (cmpP n b m d))):=by
 have HT1:=hdQ (fun w=>qm2 n b hn hb w)
 have HT2:=hdQ (fun w=>qm2 m d hm hd w)
 have HS:=qx7 (n*b) (m*d);unfold cmpP;obtain⟨X,eX⟩:∃x,n*b=x:=⟨_,rfl⟩;obtain⟨Y,eY⟩:∃x,m*d=x:=⟨_,rfl⟩
 rw [eX] at HT1 HS ⊢
 rw [eY] at HT2 HS ⊢
 clear eX eY;have HU:=hdQ (fun w=>qo3 (X/340282366920938463463374607431768211456) (Y/340282366920938463463374607431768211456) w)
 have HW:=hdQ (fun w=>q09 (X%340282366920938463463374607431768211456) (Y%340282366920938463463374607431768211456) oQ oQ w)
 rw [<-HS]
 clear HS;obtain⟨x,ex⟩:∃z,X/340282366920938463463374607431768211456=z:=⟨_,rfl⟩;obtain⟨y,ey⟩:∃z,Y/340282366920938463463374607431768211456=z:=⟨_,rfl⟩;obtain⟨lx,elx⟩:∃z,X%340282366920938463463374607431768211456=z:=⟨_,rfl⟩;obtain⟨ly,ely⟩:∃z,Y%340282366920938463463374607431768211456=z:=⟨_,rfl⟩
 rw [ex,ey] at HU ⊢
 rw [elx,ely] at HW ⊢
 rw [ex,elx] at HT1;rw [ey,ely] at HT2;clear ex ey elx ely;obtain⟨s1,e1⟩:∃z,sgn ((x:Int)-(y:Int))=z:=⟨_,rfl⟩;obtain⟨s2,e2⟩:∃z,sgn ((lx:Int)-(ly:Int))=z:=⟨_,rfl⟩
 rw [e1] at HU ⊢
 rw [e2] at HW ⊢
 clear e1 e2;have HO:=hdQ (fun w g hg=>qyy s1 s2 g w hg)
 obtain⟨F,hF⟩:∃r:Int,(if s1=0 then s2 else s1)=r:=⟨_,rfl⟩
 rw [hF] at HO ⊢
 clear hF
 simp only [uV] at HT1 HT2 HW ⊢
 obtain⟨a1,f1⟩:∃z,lx/18446744073709551616=z:=⟨_,rfl⟩;obtain⟨a0,f0⟩:∃z,lx%18446744073709551616=z:=⟨_,rfl⟩;obtain⟨b1,g1⟩:∃z,ly/18446744073709551616=z:=⟨_,rfl⟩;obtain⟨b0,g0⟩:∃z,ly%18446744073709551616=z:=⟨_,rfl⟩;rw [f1,f0] at HT1 HW;rw [g1,g0] at HT2 HW;clear f1 f0 g1 g0;obtain⟨n1,f1⟩:∃z,n/18446744073709551616=z:=⟨_,rfl⟩;obtain⟨n0,f0⟩:∃z,n%18446744073709551616=z:=⟨_,rfl⟩;obtain⟨m1,g1⟩:∃z,m/18446744073709551616=z:=⟨_,rfl⟩;obtain⟨m0,g0⟩:∃z,m%18446744073709551616=z:=⟨_,rfl⟩
 rw [f1,f0] at HT1 ⊢
 rw [g1,g0] at HT2 ⊢
 clear f1 f0 g1 g0 hn hb hm hd
 go_enter Tryz.func135,Tryz.ntmps135
 go_wp2_with (first|(go_at_call 152;have _h:=hza;(with_reducible refine(HT2.out _).monoR ?_);rintro w1 hb1 hc1 hf1 hz1;(try simp at hz1);have hy0:w.heap.size<w1.heap.size:=oQ;have hy1:w.heap.size+1<w1.heap.size:=oQ;have hyb:wa.heap.size<w1.heap.size:=oQ)|(go_at_call 152;(with_reducible refine(HT1.out _).monoR ?_);rintro wa hba hca hfa hza;(try simp at hza);obtain⟨hya0,hya1⟩:=ol2 w wa))
 refine qah [0,1,3,4,2,5,6,7,8] kr kr pq ?_
 simp only [zdy,zey,ldz,lds,bare,qaj,lcz,lcs,zay]
 repeat' ((try simp only [Act.put,lsi,lsz,lss]);first|(refine lqx ?_)|(refine qab qaa rfl (fun K hK=> ?_);go_simp;((first|(go_at_call 153;(with_reducible refine(HU.out _).mono ?_);rintro e w5 ⟨rfl,rfl⟩)|(go_at_call 154;(with_reducible refine(HW.out _).monoR ?_);rintro w5 hb5 hc5 hf5 hz5;(try simp at hz5))|(go_at_call 86;refine(HO.out _ _ ?_).mono ?_;exact qan sI;rintro e w1 ⟨rfl,hb1⟩;obtain⟨hc1,hf1,hz1⟩:=bc3 hb1;(try simp at hz1);obtain⟨hy0,hy1⟩:=ol2 w w1)|skip)<;>(refine hK.out _ _ bel ?_;clear hK K))))
 (all_goals try simp only [Act.put,lsi,lsz,lss]);all_goals(refine qad ?_)
 go_wp2;go_ret;exact⟨rfl,bel⟩
theorem qk8 (h l d:Nat) (w:World):C9 134 #[.agg #[.int .u64 h,.int .u64 l,.int .u64 d]] w (Ret w (.bool (decide (d≠0)))):=by
 by_cases hd:d=0
 · subst hd
   go_enter Tryz.func134,Tryz.ntmps134
   go_wp2;go_ret;exact⟨rfl,bel⟩
 · have h1:((d:Int) !=0)=true:=by rw [bne_iff_ne];omega
   have h2:Hid (decide (d≠0)=true):=by unfold Hid;rw [decide_eq_true_eq];exact hd
   rw [h2.out]
   go_enter Tryz.func134,Tryz.ntmps134
   go_wp2;go_ret;exact⟨rfl,bel⟩
theorem qxv (h l d:Nat) (w:World):C9 136 #[.agg #[.int .u64 h,.int .u64 l,.int .u64 d]] w (Ret w (.agg #[.int .u64 h,.int .u64 l])):=by
 go_enter Tryz.func136,Tryz.ntmps136
 go_wp2;refine qai (R:=fun w2=>Blk w2 (w.heap.size+1) 173 #[.int .u64 h,.int .u64 l]/\Below w.heap.size w w2) ⟨?_,bel⟩ ?_
 · repeat(first|with_reducible exact qdr (x:=.int .u64 0) (y:=.int .u64 0) blkA|(with_reducible refine Blk.new ?_ rfl;focus(simp;done))|with_reducible refine Blk.alloc ?_ _|with_reducible refine Blk.drew ?_)
 rintro w2 ⟨HR,hb2⟩;obtain⟨r0,r1⟩:=ce2 HR;exact bodyPost_ret (v:=.agg #[.int .u64 h,.int .u64 l]) (by simp [results,Tryz.results136,go_sem,r0,r1]) rfl ⟨rfl,hb2⟩
def FrOk (a:Fr):Prop:=a.num<340282366920938463463374607431768211456/\a.den<18446744073709551616
theorem qoe (a b:Fr) (ha:FrOk a) (hb:FrOk b) (w:World):
 C9 103 #[fV a,fV b] w (Ret w (.int .i64 (cmpF a b))):=by
 have HP:=hdQ (fun w=>qs9 a.num b.den b.num a.den ha.1 hb.2 hb.1 ha.2 w)
 have e:cmpF a b=if a.den=0 then(if b.den=0 then 0 else 1) else if b.den=0 then -1 else cmpP a.num b.den b.num a.den:=rfl
 rw [e]
 clear e;obtain⟨F,hF⟩:∃F,cmpP a.num b.den b.num a.den=F:=⟨_,rfl⟩
 rw [hF] at HP ⊢
 simp only [uV,fV] at HP ⊢
 obtain⟨a1,f1⟩:∃z,a.num/18446744073709551616=z:=⟨_,rfl⟩;obtain⟨a0,f0⟩:∃z,a.num%18446744073709551616=z:=⟨_,rfl⟩;obtain⟨b1,g1⟩:∃z,b.num/18446744073709551616=z:=⟨_,rfl⟩;obtain⟨b0,g0⟩:∃z,b.num%18446744073709551616=z:=⟨_,rfl⟩;obtain⟨ad,f2⟩:∃z,a.den=z:=⟨_,rfl⟩;obtain⟨bd,g2⟩:∃z,b.den=z:=⟨_,rfl⟩;rw [f1,f0,g1,g0,f2,g2] at HP
 rw [f1,f0,g1,g0,f2,g2]
 clear f1 f0 g1 g0 f2 g2 hF ha hb;have HSa:=hdQ (fun w=>qk8 a1 a0 ad w)
 have HSb:=hdQ (fun w=>qk8 b1 b0 bd w)
 by_cases h1:ad=0
 · have d1:decide (ad≠0)=false:=by simp [h1]
   rw [d1] at HSa
   rw [if_pos h1]
   by_cases h2:bd=0
   · have d2:decide (bd≠0)=false:=by simp [h2]
     rw [d2] at HSb
     rw [if_pos h2]
     clear HP d1 d2 h1 h2
     go_enter Tryz.func103,Tryz.ntmps103
     go_wp2_with (first|(go_at_call 134;(with_reducible refine(HSa.out _).monoR ?_);rintro w1 hb1 hc1 hf1 hz1;(try simp at hz1);obtain⟨hy0,hy1⟩:=ol2 w w1)|(go_at_call 134;(with_reducible refine(HSb.out _).monoR ?_);rintro w1 hb1 hc1 hf1 hz1;(try simp at hz1);obtain⟨hy0,hy1⟩:=ol2 w w1))
     go_ret;exact⟨rfl,bel⟩
   · have d2:decide (bd≠0)=true:=by simp [h2]
     rw [d2] at HSb
     rw [if_neg h2]
     clear HP d1 d2 h1 h2
     go_enter Tryz.func103,Tryz.ntmps103
     go_wp2_with (first|(go_at_call 134;(with_reducible refine(HSa.out _).monoR ?_);rintro w1 hb1 hc1 hf1 hz1;(try simp at hz1);obtain⟨hy0,hy1⟩:=ol2 w w1)|(go_at_call 134;(with_reducible refine(HSb.out _).monoR ?_);rintro w1 hb1 hc1 hf1 hz1;(try simp at hz1);obtain⟨hy0,hy1⟩:=ol2 w w1))
     go_ret;exact⟨rfl,bel⟩
 · have d1:decide (ad≠0)=true:=by simp [h1]
   rw [d1] at HSa
   rw [if_neg h1]
   by_cases h2:bd=0
   · have d2:decide (bd≠0)=false:=by simp [h2]
     rw [d2] at HSb
     rw [if_pos h2]
     clear HP d1 d2 h1 h2
     go_enter Tryz.func103,Tryz.ntmps103
     go_wp2_with (first|(go_at_call 134;(with_reducible refine(HSa.out _).monoR ?_);rintro w1 hb1 hc1 hf1 hz1;(try simp at hz1);obtain⟨hy0,hy1⟩:=ol2 w w1)|(go_at_call 134;(with_reducible refine(HSb.out _).monoR ?_);rintro w1 hb1 hc1 hf1 hz1;(try simp at hz1);obtain⟨hy0,hy1⟩:=ol2 w w1))
     go_ret;exact⟨rfl,bel⟩
   · have d2:decide (bd≠0)=true:=by simp [h2]
     rw [d2] at HSb
     rw [if_neg h2]
     clear d1 d2 h1 h2;have HTa:=hdQ (fun w=>qxv a1 a0 ad w)
     have HTb:=hdQ (fun w=>qxv b1 b0 bd w)
     go_enter Tryz.func103,Tryz.ntmps103
     go_wp2_with (first|(go_at_call 134;(with_reducible refine(HSa.out _).monoR ?_);rintro w1 hb1 hc1 hf1 hz1;(try simp at hz1);obtain⟨hy0,hy1⟩:=ol2 w w1)|(go_at_call 134;(with_reducible refine(HSb.out _).monoR ?_);rintro w1 hb1 hc1 hf1 hz1;(try simp at hz1);obtain⟨hy0,hy1⟩:=ol2 w w1))
     refine qah [0,2,3,4,6,7,1,5,8,9] kr kr pq ?_
     simp only [zdy,zey,ldz,lds,bare,qaj,lcz,lcs,zay]
     repeat' ((try simp only [Act.put,lsi,lsz,lss]);first|(refine lqx ?_)|(refine qab qaa rfl (fun K hK=> ?_);go_simp;((first|(go_at_call 136;(with_reducible refine(HTa.out _).monoR ?_);rintro w1 hb1 hc1 hf1 hz1;(try simp at hz1);obtain⟨hy0,hy1⟩:=ol2 w w1)|(go_at_call 136;(with_reducible refine(HTb.out _).monoR ?_);rintro w1 hb1 hc1 hf1 hz1;(try simp at hz1);obtain⟨hy0,hy1⟩:=ol2 w w1)|(go_at_call 135;(with_reducible refine(HP.out _).monoR ?_);rintro w1 hb1 hc1 hf1 hz1;(try simp at hz1);obtain⟨hy0,hy1⟩:=ol2 w w1)|skip)<;>(refine hK.out _ _ bel ?_;clear hK K))))
     (all_goals try simp only [Act.put,lsi,lsz,lss]);all_goals(refine qad ?_)
     go_wp2;go_ret;exact⟨rfl,bel⟩
def fcs (a:Fr):List Value:= [.int .u64 ((a.num/18446744073709551616:Nat):Int),.int .u64 ((a.num%18446744073709551616:Nat):Int),.int .u64 (a.den:Int)]
theorem qb7 (a:Fr):fV a=.agg (fcs a).toArray:=rfl
theorem qfa (a:Fr):∃x y z:Nat,fcs a= [.int .u64 x,.int .u64 y,.int .u64 z]:=⟨_,_,_,rfl⟩
theorem qfm:fcs qo0= [.int .u64 0,.int .u64 0,.int .u64 0]:=by simp [fcs,qo0]
def qto (w:World) (B:Nat) (A:Option Addr) (n:Nat) (l:List Fr):Prop:=
 l.length=n/\(0<n->∃b off,A=some ⟨b,off,none⟩/\b<B/\∀k (p:Fr),l[k]? =some p->w.cell? ⟨b,off+k*3,none⟩=(fcs p)[0]? /\w.cell? ⟨b,off+k*3+1,none⟩=(fcs p)[1]? /\w.cell? ⟨b,off+k*3+2,none⟩=(fcs p)[2]?)
theorem qto.below {w w' :World} {B n:Nat} {A:Option Addr} {l:List Fr} (h:qto w B A n l) (hb:Below B w w'):qto w' B A n l:=
 ⟨h.1,fun hn=>by
  obtain⟨b,off,e,hlt,hc⟩:=h.2 hn
  exact⟨b,off,e,hlt,fun k p hp=>⟨(hb.cell (p:=⟨b,_,none⟩) hlt).trans (hc k p hp).1,(hb.cell (p:=⟨b,_,none⟩) hlt).trans (hc k p hp).2.1,(hb.cell (p:=⟨b,_,none⟩) hlt).trans (hc k p hp).2.2⟩⟩⟩
def fr (l:List Fr) (k:Nat):Fr:=l.getD k qo0
theorem q5q {l:List Fr} {k:Nat} (h:k<l.length):l[k]? =some (fr l k):=by
 rw [fr,zpy,zby h];rfl
theorem qto.at_ {w:World} {B n:Nat} {A:Option Addr} {l:List Fr} (h:qto w B A n l) {k:Nat} (hk:k<n):
 ∃b off,A=some ⟨b,off,none⟩/\b<B/\w.cell? ⟨b,off+k*3,none⟩=(fcs (fr l k))[0]? /\w.cell? ⟨b,off+k*3+1,none⟩=(fcs (fr l k))[1]? /\w.cell? ⟨b,off+k*3+2,none⟩=(fcs (fr l k))[2]? :=by
 obtain⟨b,off,e,hb,hc⟩:=h.2 oQ
 exact⟨b,off,e,hb,hc k (fr l k) (q5q (by rw [h.1];exact hk))⟩
theorem qwc (r:List Fr) (d:Fr):∀o,qmv o (r++ [d])=if cmpF d (qmv o r)<0 then d else qmv o r:=by
 induction r with
 | nil=>intro o;rfl
 | cons x r ih=>intro o;exact ih _
theorem qzi (r:List Fr) (d:Fr):minF (r++ [d])=if r= []\/cmpF d (minF r)<0 then d else minF r:=by
 cases r with
 | nil=>simp [minF,qmv]
 | cons x r=>
   show qmv x (r++ [d])=_
   rw [qwc]
   simp only [reduceCtorEq,false_or]
   rfl
theorem qzh {l:List Fr} {k:Nat} (h:k<l.length):minF (l.take (k+1))=if k=0\/cmpF (fr l k) (minF (l.take k))<0 then fr l k else minF (l.take k):=by
 rw [zwy,q5q h]
 show minF (l.take k++ [fr l k])=_
 rw [qzi]
 have:(l.take k= [])↔k=0:=by
  rw [List.take_eq_nil_iff]
  constructor
  · rintro(h1|h1)
    · exact h1
    · rw [h1] at h;simp at h
  · exact fun h=> .inl h
 simp only [this]
theorem qzj {l:List Fr} (h:∀x∈l,FrOk x):FrOk (minF l):=by
 cases l with
 | nil=>exact ⟨by decide,by decide⟩
 | cons x r=>exact h _ (qon sI)
theorem q1y (B n c:Nat) (A:Option Addr) (l:List Fr) (w:World) (hl:qto w B A n l) (hB:B<=w.heap.size) (hn:n<=1000000) (hok:∀x∈l,FrOk x):
 C9 65 #[.slice A n c] w (Ret w (fV (minF l))):=by
 have HF:=hdQ (qb7 (minF l));have HOK:=hdQ hok;clear hok
 go_enter Tryz.func65,Tryz.ntmps65
 go_wp2;have hR0:Blk (w.alloc (.cells #[.int .u64 0,.int .u64 0,.int .u64 0] 71)) w.heap.size 71 #[.int .u64 0,.int .u64 0,.int .u64 0]:=blkA
 go_loopw [7] (fun i wr=>∃k:Nat,k<=n/\i=.int .i64 k/\Blk wr w.heap.size 71 (fcs (minF (l.take k))).toArray/\Below w.heap.size w wr) (fun i _=>n-(intOf i).toNat)
 case atStart=>exact ⟨0,zly _,rfl,by rw [List.take_zero];rw [show minF []=qo0 from rfl,qfm];exact hR0,bel⟩
 case round=>
  obtain⟨k,hk,rfl,hR,hb⟩:=hrel;clear hR0;obtain⟨o1,o0,od,eo⟩:=qfa (minF (l.take k));have hR' :=hR;have HRE:=hdQ eo;rw [eo] at hR;have cR:=hR.cell;have fR:=hR.frozen;have lR:=hR.lt
  by_cases hlt:k<n
  · obtain⟨b,off,rfl,hab,c0,c1,c2⟩:=(hl.below (hb.mono hB)).at_ hlt
    have hkl:k<l.length:=by rw [hl.1];exact hlt
    have HT:=hdQ (qzh hkl);obtain⟨d1,d0,dd,ed⟩:=qfa (fr l k);have HED:=hdQ ed;rw [ed] at c0 c1 c2
    have hC:Hid (∀w,C9 103 #[.agg #[.int .u64 d1,.int .u64 d0,.int .u64 dd],.agg #[.int .u64 o1,.int .u64 o0,.int .u64 od]] w (Ret w (.int .i64 (cmpF (fr l k) (minF (l.take k)))))):=fun w=>by
     have h:=qoe (fr l k) (minF (l.take k)) (HOK.out _ (zjy (q5q hkl))) (qzj (fun x hx=>HOK.out x (List.mem_of_mem_take hx))) w
     rw [qb7,qb7,eo,ed] at h;exact h
    clear eo ed;have hbr:b<wr.heap.size:=by have:=hb.size;omega
    have hbR:b≠w.heap.size:=oQ
    simp only [lcz,lcs] at c0 c1 c2
    by_cases h0:k=0
    · subst h0
      rw [if_pos (.inl rfl)] at HT;have HN:Hid (∀wx,Blk wx w.heap.size 71 #[.int .u64 d1,.int .u64 d0,.int .u64 dd]->Blk wx w.heap.size 71 (fcs (minF (l.take (0+1)))).toArray):=fun wx h=>by rw [HT.out,HED.out];exact h
      clear hC hR' HT HED;simp only [Nat.zero_mul,Nat.add_zero] at c0 c1 c2;go_wp2_with fail
      go_roundw
      case rel=>exact ⟨1,by omega,by first|rfl|go_num,HN.out _ (by repeat(first|with_reducible exact qat (x:=.int .u64 o1) (y:=.int .u64 o0) (z:=.int .u64 od) blkA|(with_reducible refine Blk.new ?_ rfl;focus(simp;done))|with_reducible refine Blk.alloc ?_ _|with_reducible refine Blk.drew ?_)),bel⟩
      case measure=>simp [intOf];omega
    · have hk1:((k:Int)==0)=false:=by rw [beq_eq_false_iff_ne];omega
      have hk2:¬ (k:Int)=0:=oQ
      obtain⟨cm,ecm⟩:∃cm,cmpF (fr l k) (minF (l.take k))=cm:=⟨_,rfl⟩;rw [ecm] at hC HT
      by_cases hlt0:cm<0
      · rw [if_pos (.inr hlt0)] at HT
        have HN:Hid (∀wx,Blk wx w.heap.size 71 #[.int .u64 d1,.int .u64 d0,.int .u64 dd]->Blk wx w.heap.size 71 (fcs (minF (l.take (k+1)))).toArray):=fun wx h=>by rw [HT.out,HED.out];exact h
        clear hR' HT HED ecm h0
        go_wp2_with (go_at_call 103;refine(hC.out _).monoR ?_;rintro w1 hb1 hc1 hf1 hz1;(try simp at hz1);have hy0:=ol1 w w1)
        go_roundw
        case rel=>exact ⟨k+1,by omega,by go_num,HN.out _ (by repeat(first|with_reducible exact qat (x:=.int .u64 o1) (y:=.int .u64 o0) (z:=.int .u64 od) blkA|(with_reducible refine Blk.new ?_ rfl;focus(simp;done))|with_reducible refine Blk.alloc ?_ _|with_reducible refine Blk.drew ?_)),bel⟩
        case measure=>simp [intOf];omega
      · rw [if_neg oQ] at HT
        have HN:Hid (∀wx,Blk wx w.heap.size 71 #[.int .u64 o1,.int .u64 o0,.int .u64 od]->Blk wx w.heap.size 71 (fcs (minF (l.take (k+1)))).toArray):=fun wx h=>by rw [HT.out,HRE.out];exact h
        clear hR' HT HED ecm h0
        go_wp2_with (go_at_call 103;refine(hC.out _).monoR ?_;rintro w1 hb1 hc1 hf1 hz1;(try simp at hz1);have hy0:=ol1 w w1)
        go_roundw
        case rel=>exact ⟨k+1,by omega,by go_num,HN.out _ blkA,bel⟩
        case measure=>simp [intOf];omega
  · have hkn:l.length<=k:=by rw [hl.1];omega
    rw [zmy hkn] at HRE;have HF2:Hid (fV (minF l)=.agg #[.int .u64 o1,.int .u64 o0,.int .u64 od]):=by unfold Hid;rw [HF.out,HRE.out]
    clear hR' HF HRE;go_wp2_with fail;refine qai (R:=fun w2=>Blk w2 (w.heap.size) 71 #[.int .u64 o1,.int .u64 o0,.int .u64 od]/\Below w.heap.size w w2) ⟨?_,bel⟩ ?_
    · repeat(first|with_reducible exact qat (x:=.int .u64 o1) (y:=.int .u64 o0) (z:=.int .u64 od) blkA|(with_reducible refine Blk.new ?_ rfl;focus(simp;done))|with_reducible refine Blk.alloc ?_ _|with_reducible refine Blk.drew ?_)
    rintro w2 ⟨HR,hb2⟩;obtain⟨r0,r1,r2⟩:=ce3 HR
    rw [HF2.out]
    exact bodyPost_ret (v:=.agg #[.int .u64 o1,.int .u64 o0,.int .u64 od]) (by simp [results,Tryz.results65,go_sem,r0,r1,r2]) rfl ⟨rfl,hb2⟩
end Go.Proofs.YtfnhnjbkkggbeaaGreat
