/-Contract of math/bits.Div64.-/
import Derived.Test.YtfnhnjbkkggbeaaGreatKPlane
import Derived.Test.YtfnhnjbkkggbeaaGreatKBits1
import Derived.Test.YtfnhnjbkkggbeaaGreatKLex
import Derived.Lib.EndianBits
import Derived.Shelf.Bits.Mul64
set_option linter.unusedVariables false
set_option linter.unusedSimpArgs false
set_option maxHeartbeats 8000000
set_option maxRecDepth 20000
namespace Pg
structure KnI (u v w1 w0 q r:Nat):Prop where
 sum:q*w1+r=u
 low:(u*4294967296+v)/(w1*4294967296+w0)<=q
 top:q<=4294967297
 rest:r<4294967296
theorem kn_q (u v w1 w0:Nat) (hw1:2147483648<=w1) (hw1' :w1<4294967296) (hw0:w0<4294967296) (hv:v<4294967296) (hu:u<w1*4294967296+w0):
 (u*4294967296+v)/(w1*4294967296+w0)<4294967296:=by
 rw [Nat.div_lt_iff_lt_mul oQ]
 omega
theorem qm9 (u v w1 w0:Nat) (hw1:2147483648<=w1) (hw1' :w1<4294967296) (hw0:w0<4294967296) (hv:v<4294967296) (hu:u<w1*4294967296+w0):
 KnI u v w1 w0 (u/w1) (u-u/w1*w1):=by
 have hd:=Nat.div_add_mod u w1;have hm:=Nat.mod_lt u (show w1>0 by omega)
 rw [Nat.mul_comm] at hd;refine⟨by omega,?_,?_,by omega⟩
 · apply Nat.le_of_lt_succ
   rw [Nat.div_lt_iff_lt_mul oQ]
   have h1:(u/w1+1)*(w1*4294967296+w0)=(u/w1*w1+w1)*4294967296+(u/w1+1)*w0:=by grind
   rw [h1]
   omega
 · apply Nat.le_of_lt_succ
   rw [Nat.div_lt_iff_lt_mul oQ]
   omega
theorem q0r {u v w1 w0 q r:Nat} (h:q*w1+r=u):q*(w1*4294967296+w0)+r*4294967296=u*4294967296+q*w0:=by
 subst h;grind
theorem qkm {u v w1 w0 q r:Nat} (hw1:2147483648<=w1) (hw1' :w1<4294967296) (hw0:w0<4294967296) (hv:v<4294967296) (hu:u<w1*4294967296+w0) (h:KnI u v w1 w0 q r)
 (ht:4294967296<=q\/4294967296*r+v<q*w0):(u*4294967296+v)/(w1*4294967296+w0)<q:=by
 rcases ht with ht|ht
 · have:=kn_q u v w1 w0 hw1 hw1' hw0 hv hu;omega
 · rw [Nat.div_lt_iff_lt_mul oQ]
   have:=q0r (v:=v) (w0:=w0) h.sum
   omega
theorem qsg {u v w1 w0 q r:Nat} (hw1:2147483648<=w1) (h:q*w1+r=u) (low:(u*4294967296+v)/(w1*4294967296+w0)<=q)
 (ht:q*w0<=4294967296*r+v):(u*4294967296+v)/(w1*4294967296+w0)=q:=by
 apply Nat.le_antisymm low
 rw [Nat.le_div_iff_mul_le oQ]
 have:=q0r (v:=v) (w0:=w0) h
 omega
theorem qql {u v w1 w0 q r:Nat} (hw1:2147483648<=w1) (hw1' :w1<4294967296) (hw0:w0<4294967296) (hv:v<4294967296) (hu:u<w1*4294967296+w0) (h:KnI u v w1 w0 q r)
 (ht:4294967296<=q\/4294967296*r+v<q*w0) (hr:r+w1<4294967296):KnI u v w1 w0 (q-1) (r+w1):=by
 have hl:=qkm hw1 hw1' hw0 hv hu h ht
 have hs:(q-1)*w1+(r+w1)=u:=by
  have:(q-1+1)*w1=(q-1)*w1+w1:=by rw [Nat.add_mul,Nat.one_mul]
  rw [Nat.sub_add_cancel (zix (zly _) hl)] at this;have:=h.sum
  omega
 exact⟨hs,by omega,by have:=h.top;omega,hr⟩
theorem qna {u v w1 w0 q r:Nat} (hw1:2147483648<=w1) (hw1' :w1<4294967296) (hw0:w0<4294967296) (hv:v<4294967296) (hu:u<w1*4294967296+w0) (h:KnI u v w1 w0 q r)
 (ht:4294967296<=q\/4294967296*r+v<q*w0) (hr:4294967296<=r+w1):(u*4294967296+v)/(w1*4294967296+w0)=q-1:=by
 have hl:=qkm hw1 hw1' hw0 hv hu h ht
 have hs:(q-1)*w1+(r+w1)=u:=by
  have:(q-1+1)*w1=(q-1)*w1+w1:=by rw [Nat.add_mul,Nat.one_mul]
  rw [Nat.sub_add_cancel (zix (zly _) hl)] at this;have:=h.sum
  omega
 refine qsg hw1 hs oQ ?_
 have h1:(q-1)*w0<=4294967296*w0:=zuy _ (by have:=h.top;omega)
 have h2:4294967296*4294967296<=4294967296*(r+w1):=Nat.mul_le_mul_left _ hr
 omega
theorem qqm {u v w1 w0 q r:Nat} (hw0:w0<4294967296) (h:KnI u v w1 w0 q r):q*w0<18446744073709551616:=by
 have h1:q*w0<=4294967297*w0:=zuy _ h.top
 omega
theorem q1q (u v y q:Nat) (hy:y<18446744073709551616) (hy0:0<y) (hq:(u*4294967296+v)/y=q):
 (((u*4294967296:Nat):Int)+v-(q*y:Nat))=(((u*4294967296+v)%y:Nat):Int)/\(u*4294967296+v)%y<18446744073709551616:=by
 have:=Nat.div_add_mod (u*4294967296+v) y;have hm:=Nat.mod_lt (u*4294967296+v) hy0;rw [hq,Nat.mul_comm] at this
 omega
theorem q3c (u a b y:Nat) (ha:a<4294967296) (hb:b<4294967296) (hy0:0<y) (hu:u<y):
 (u*18446744073709551616+(a*4294967296+b))/y=(u*4294967296+a)/y*4294967296+((u*4294967296+a)%y*4294967296+b)/y/\
 (u*18446744073709551616+(a*4294967296+b))%y=((u*4294967296+a)%y*4294967296+b)%y:=by
 have h1:=Nat.div_add_mod (u*4294967296+a) y
 have e:u*18446744073709551616+(a*4294967296+b)=((u*4294967296+a)%y*4294967296+b)+y*((u*4294967296+a)/y*4294967296):=by
  have:(y*((u*4294967296+a)/y)+(u*4294967296+a)%y)*4294967296=(u*4294967296+a)*4294967296:=by rw [h1]
  rw [Nat.add_mul,Nat.mul_assoc] at this
  omega
 rw [e,Nat.add_mul_div_left _ _ hy0,Nat.add_mul_mod_self_left]
 exact⟨by omega,rfl⟩
theorem q1r (hi lo y s:Nat) (hs:s<=63) (hlo:lo<18446744073709551616) (hhi:hi<y) (hy:y*2 ^ s<18446744073709551616):
 hi*2 ^ s+lo/2 ^ (64-s)<y*2 ^ s/\(hi*18446744073709551616+lo)*2 ^ s=(hi*2 ^ s+lo/2 ^ (64-s))*18446744073709551616+lo*2 ^ s%18446744073709551616/\lo/2 ^ (64-s)<2 ^ s:=by
 have hp:2 ^ (64-s)*2 ^ s=18446744073709551616:=by rw [<-Nat.pow_add,show 64-s+s=64 by omega]
 have hp0:0<2 ^ (64-s):=Nat.pow_pos oQ
 have hp1:0<2 ^ s:=Nat.pow_pos oQ
 have hl:lo/2 ^ (64-s)<2 ^ s:=by
  rw [Nat.div_lt_iff_lt_mul hp0,Nat.mul_comm,hp]
  exact hlo
 refine⟨?_,?_,hl⟩
 · have:(hi+1)*2 ^ s<=y*2 ^ s:=zuy _ hhi
   rw [Nat.add_mul] at this
   omega
 · have h1:=Nat.div_add_mod (lo*2 ^ s) 18446744073709551616
   have h2:lo*2 ^ s/18446744073709551616=lo/2 ^ (64-s):=by
    rw [<-hp]
    exact Nat.mul_div_mul_right _ _ hp1
   rw [h2] at h1;generalize 2 ^ s=P at*;generalize lo/2 ^ (64-s)=L at*;generalize lo*P%18446744073709551616=M at*
   grind
end Pg
namespace Go.Proofs.YtfnhnjbkkggbeaaGreat
open Go.RowKit Pg
theorem qqk (y:Nat) (h0:0<y) (hy:y<18446744073709551616):∃s:Nat,s<=63/\64-(Lib.bitLen y:Int)=s/\9223372036854775808<=y*2 ^ s/\y*2 ^ s<18446744073709551616:=by
 obtain⟨h1,h2,h3⟩:=Lib.bitLenAux_bounds 64 y hy oQ
 have h4:=Lib.bitLen_le y 64 oQ hy
 unfold Lib.bitLen at h4 ⊢;generalize Lib.bitLenAux 64 y=b at*;refine⟨64-b,by omega,by omega,?_,?_⟩
 · have:2 ^ (b-1)*2 ^ (64-b)=9223372036854775808:=by rw [<-Nat.pow_add,show b-1+(64-b)=63 by omega]
   rw [<-this]
   exact zuy _ h2
 · have:2 ^ b*2 ^ (64-b)=18446744073709551616:=by rw [<-Nat.pow_add,show b+(64-b)=64 by omega]
   rw [<-this]
   exact Nat.mul_lt_mul_of_pos_right h3 (Nat.pow_pos dE)
theorem qau (n:Nat) (h:n<18446744073709551616):IntKind.u64.wrap (n:Int)=(n:Int):=wraps_u64 _ oQ (by simp;omega)
theorem qch (z:Int):∃n:Nat,IntKind.u64.wrap z=(n:Int):=⟨(z%18446744073709551616).toNat,by rw [IntKind.wrap_u64];omega⟩
theorem qt9 (lo y:Nat) (hlo:lo<18446744073709551616) (hy0:0<y) (hy:y<18446744073709551616) (w:World):
 C9 157 #[.int .u64 0,.int .u64 lo,.int .u64 y] w (Ret w (.tuple #[.int .u64 ((lo/y:Nat):Int),.int .u64 ((lo%y:Nat):Int)])):=by
 have hz1:((y:Int) !=0)=true:=by rw [bne_iff_ne];omega
 have hz2:¬ (y:Int)=0:=oQ
 have hz3:¬ (y:Int)<=0:=oQ
 have hq:lo/y<=lo:=Nat.div_le_self _ _;have hr:lo%y<y:=Nat.mod_lt _ hy0;obtain⟨q,eq⟩:∃q,lo/y=q:=⟨_,rfl⟩;obtain⟨r,er⟩:∃r,lo%y=r:=⟨_,rfl⟩;have hd:(lo:Int)/(y:Int)=(q:Int):=by rw [<-Int.natCast_ediv,eq]
 have hd2:IntKind.u64.wrap (q:Int)=(q:Int):=qau _ oQ
 have hm:(lo:Int).tmod (y:Int)=(r:Int):=by rw [<-Int.ofNat_tmod,er]
 rw [eq,er]
 clear eq er
 go_enter Tryz.func157,Tryz.ntmps157
 go_wp2_with fail;refine qac kr kr pq ?_
 simp only [zdy,zey,ldz,lds,bare,qak,lcz,lcs,zay]
 repeat' ((try simp only [Act.put,lsi,lsz,lss]);first|(refine lqx ?_)|(refine qab qaa rfl (fun K hK=> ?_);go_simp;((first|fail|skip)<;>(refine hK.out _ _ bel ?_;clear hK K))))
 (all_goals try simp only [Act.put,lsi,lsz,lss]);all_goals(refine qad ?_)
 go_wp2
 go_ret2
 exact⟨rfl,bel⟩
theorem q1h (A B s:Nat) (hs:s<=63) (hA:A*2 ^ s<18446744073709551616) (hB:B<2 ^ s):bits .or .u64 ((A*2 ^ s:Nat):Int) (B:Int)=((A*2 ^ s+B:Nat):Int):=by
 have h2:(2:Nat) ^ s<=2 ^ 63:=Nat.pow_le_pow_right dE hs
 rw [bits_join .u64 64 dE (fun n h₀ h₁=>wraps_u64 n h₀ (by simpa using h₁)) s _ _ oQ ?_ (by rw [show (2:Int) ^ 64=18446744073709551616 by decide];omega) oQ (by exact_mod_cast hB) (by rw [show (2:Int) ^ 64=18446744073709551616 by decide];have:=zky hB h2;simp only [Nat.reducePow] at this;omega)]
 · omega
 · rw [Int.natCast_mul,Int.natCast_pow]
   exact Int.mul_emod_left _ _
theorem qsf (u v y q:Nat) (hy:y<18446744073709551616) (hy0:0<y) (hq:(u*4294967296+v)/y=q):
 IntKind.u64.wrap (IntKind.u64.wrap (IntKind.u64.wrap ((u:Int)*4294967296)+(v:Int))-IntKind.u64.wrap ((q:Int)*(y:Int)))=(((u*4294967296+v)%y:Nat):Int):=by
 obtain⟨h1,h2⟩:=q1q u v y q hy hy0 hq
 simp only [IntKind.wrap_u64]
 rw [show (q:Int)*(y:Int)=((q*y:Nat):Int) by rw [Int.natCast_mul],show (u:Int)*4294967296=((u*4294967296:Nat):Int) by omega]
 generalize q*y=P at*;generalize (u*4294967296+v)%y=R at*
 omega
theorem qua (hi lo y:Nat) (hlo:lo<18446744073709551616) (hy:y<18446744073709551616) (h0:0<hi) (hh:hi<y) (w:World):
 C9 157 #[.int .u64 hi,.int .u64 lo,.int .u64 y] w (Ret w (.tuple #[.int .u64 (((hi*18446744073709551616+lo)/y:Nat):Int),.int .u64 (((hi*18446744073709551616+lo)%y:Nat):Int)])):=by
 obtain⟨s,hs,es,hs1,hs2⟩:=qqk y oQ hy
 have HL:Hid (∀w,C9 159 #[.int .u64 y] w (Ret w (.int .i64 s))):=fun w=>(qty y w oQ oQ).mono (by rintro e w1 ⟨rfl,rfl⟩;refine⟨?_,Below.refl _ _⟩;rw [Int.toNat_natCast,es])
 obtain⟨n1,n2,n3⟩:=q1r hi lo y s hs hlo hh hs2;have hhs:hi*2 ^ s<18446744073709551616:=zix (Nat.le_add_right _ _) (Nat.lt_trans n1 hs2);have hor:=q1h hi (lo/2 ^ (64-s)) s hs hhs n3;have hps:0<2 ^ s:=Nat.pow_pos dE
 -- the answer,in the words that the machine reckons
 obtain⟨u,hu⟩:∃u,hi*2 ^ s+lo/2 ^ (64-s)=u:=⟨_,rfl⟩;obtain⟨V,hV⟩:∃V,lo*2 ^ s%18446744073709551616=V:=⟨_,rfl⟩;obtain⟨Y,hY⟩:∃Y,y*2 ^ s=Y:=⟨_,rfl⟩;rw [hu,hV] at n2;rw [hu,hY] at n1;rw [hY] at hs1 hs2;rw [hu] at hor;have hVlt:V<18446744073709551616:=oQ
 obtain⟨a,ha⟩:∃a,V/4294967296=a:=⟨_,rfl⟩;obtain⟨b,hb⟩:∃b,V%4294967296=b:=⟨_,rfl⟩;obtain⟨w1',hw1⟩:∃a,Y/4294967296=a:=⟨_,rfl⟩;obtain⟨w0,hw0⟩:∃b,Y%4294967296=b:=⟨_,rfl⟩;have eY0:Y=w1' *4294967296+w0:=oQ
 have eV0:V=a*4294967296+b:=oQ
 have t1:2147483648<=w1' :=oQ
 have t2:w1' <4294967296:=oQ
 have t3:w0<4294967296:=oQ
 have t4:a<4294967296:=oQ
 have t5:b<4294967296:=oQ
 have t6:u<w1' *4294967296+w0:=oQ
 obtain⟨k1,k2⟩:=q3c u a b Y t4 t5 oQ n1
 have FQ:Hid ((hi*18446744073709551616+lo)/y=(u*4294967296+a)/Y*4294967296+((u*4294967296+a)%Y*4294967296+b)/Y):=by
  unfold Hid
  rw [<-k1,<-eV0,<-n2,<-hY,Nat.mul_div_mul_right _ _ hps]
 have FR:Hid ((hi*18446744073709551616+lo)%y=((u*4294967296+a)%Y*4294967296+b)%Y/2 ^ s):=by
  unfold Hid
  rw [<-k2,<-eV0,<-n2,<-hY,Nat.mul_mod_mul_right,Nat.mul_div_cancel _ hps]
 obtain⟨FN,hFN⟩:∃n,(hi*18446744073709551616+lo)/y=n:=⟨_,rfl⟩;obtain⟨FM,hFM⟩:∃n,(hi*18446744073709551616+lo)%y=n:=⟨_,rfl⟩;rw [hFN] at FQ;rw [hFM] at FR
 rw [hFN,hFM]
 clear hFN hFM;have hz1:((y:Int)==0)=false:=by rw [beq_eq_false_iff_ne];omega
 have hz3:¬ (y:Int)<=hi:=oQ
 have hz4:((hi:Int)==0)=false:=by rw [beq_eq_false_iff_ne];omega
 have f1:IntKind.u64.wrap ((y:Int)*2 ^ s)=(Y:Int):=by
  rw [show (y:Int)*2 ^ s=((y*2 ^ s:Nat):Int) by rw [Int.natCast_mul,Int.natCast_pow];rfl,hY,qau _ hs2]
 have f2:bits .and .u64 (Y:Int) 4294967295=(w0:Int):=by rw [Mul64.maskN _ hs2,hw0]
 have f3:(Y:Int)/4294967296=(w1' :Int):=oQ
 have f4:IntKind.u64.wrap ((hi:Int)*2 ^ s)=((hi*2 ^ s:Nat):Int):=by
  rw [show (hi:Int)*2 ^ s=((hi*2 ^ s:Nat):Int) by rw [Int.natCast_mul,Int.natCast_pow];rfl,qau _ hhs]
 have f5:bits .or .u64 (IntKind.u64.wrap ((hi:Int)*2 ^ s)) ((lo:Int)/2 ^ (64-s))=(u:Int):=by
  rw [f4,<-hor]
  congr 1
 have f6:IntKind.u64.wrap ((lo:Int)*2 ^ s)=(V:Int):=by
  rw [show (lo:Int)*2 ^ s=((lo*2 ^ s:Nat):Int) by rw [Int.natCast_mul,Int.natCast_pow];rfl,IntKind.wrap_u64]
  omega
 have f7:(V:Int)/4294967296=(a:Int):=oQ
 have f8:bits .and .u64 (V:Int) 4294967295=(b:Int):=by rw [Mul64.maskN _ hVlt,hb]
 have hz5:¬ (w1' :Int)=0:=oQ
 have hz6:((w1' :Int) !=0)=true:=by rw [bne_iff_ne];omega
 -- the first digit's start
 have st1:=qm9 u a w1' w0 t1 t2 t3 t4 t6;have g1:IntKind.u64.wrap ((u:Int)/(w1' :Int))=((u/w1' :Nat):Int):=by rw [<-Int.natCast_ediv];exact qau _ (by have:=st1.top;omega)
 have g2:IntKind.u64.wrap ((u:Int)-IntKind.u64.wrap (((u/w1' :Nat):Int)*(w1' :Int)))=((u-u/w1' *w1' :Nat):Int):=by
  have hle:=Nat.div_mul_le_self u w1'
  rw [show ((u/w1' :Nat):Int)*(w1' :Int)=((u/w1' *w1' :Nat):Int) by rw [Int.natCast_mul],qau _ oQ,show (u:Int)-((u/w1' *w1' :Nat):Int)=((u-u/w1' *w1' :Nat):Int) by omega,qau _ oQ]
 have ST1:=hdQ st1;obtain⟨q0,hq0⟩:∃q,u/w1' =q:=⟨_,rfl⟩;obtain⟨r0,hr0⟩:∃r,u-q0*w1' =r:=⟨_,rfl⟩;rw [hq0] at g1 g2 ST1;rw [hr0] at g2 ST1;have RST:=hdQ (fun q (hq:(u*4294967296+a)/Y=q)=>qsf u a Y q hs2 oQ hq)
 have RST2:=hdQ (fun v q (hq:(v*4294967296+b)/Y=q)=>qsf v b Y q hs2 oQ hq)
 have HY:=hdQ eY0;clear es hs1 n1 n2 n3 hhs hor hps hu hV hY ha hb hw1 hw0 eY0 eV0 k1 k2 hVlt f4 st1 hq0 hr0 h0 hh hlo hy
 go_enter Tryz.func157,Tryz.ntmps157
 go_wp2_with (go_at_call 159;refine(HL.out _).monoR ?_;rintro w1 hb1 hc1 hf1 hz1;(try simp at hz1))
 go_loopw [15,16] (fun q r wr=>∃Q R:Nat,q=.int .u64 Q/\r=.int .u64 R/\Hid (KnI u a w1' w0 Q R)/\Below w.heap.size w wr) (fun q _ _=>(intOf q).toNat)
 case atStart=>exact ⟨q0,r0,rfl,rfl,ST1,bel⟩
 case round=>
  obtain⟨Q,R,rfl,rfl,hk,hb⟩:=hrel;have hp:=qqm t3 hk.out;have hr:=hk.out.rest;have hqt:=hk.out.top;obtain⟨P,eP⟩:∃P,Q*w0=P:=⟨_,rfl⟩;obtain⟨T,eT⟩:∃P,4294967296*R=P:=⟨_,rfl⟩;obtain⟨Z,eZ⟩:∃P,T+a=P:=⟨_,rfl⟩;obtain⟨R2,eR⟩:∃P,R+w1' =P:=⟨_,rfl⟩;have P1:IntKind.u64.wrap ((Q:Int)*(w0:Int))=(P:Int):=by rw [<-Int.natCast_mul,qau _ hp,eP]
  have P2:IntKind.u64.wrap (4294967296*(R:Int))=(T:Int):=by rw [show 4294967296*(R:Int)=((4294967296*R:Nat):Int) by omega,qau _ oQ,eT]
  have P3:IntKind.u64.wrap ((T:Int)+(a:Int))=(Z:Int):=by rw [<-Int.natCast_add,qau _ oQ,eZ]
  have P4:IntKind.u64.wrap ((R:Int)+(w1' :Int))=(R2:Int):=by rw [<-Int.natCast_add,qau _ oQ,eR]
  by_cases ht:4294967296<=Q\/4294967296*R+a<Q*w0
  · have hq1:1<=Q:=zix (zly _) (qkm t1 t2 t3 t4 t6 hk.out ht)
    obtain⟨Q1,eQ1⟩:∃P,Q-1=P:=⟨_,rfl⟩;have P5:IntKind.u64.wrap ((Q:Int)-1)=(Q1:Int):=by rw [show (Q:Int)-1=((Q-1:Nat):Int) by omega,qau _ oQ,eQ1]
    have ht2:(4294967296:Int)<=(Q:Int)\/(¬ (4294967296:Int)<=(Q:Int))/\(Z:Int)<(P:Int):=by
     rw [eT,eZ,eP] at ht
     omega
    by_cases hbr:4294967296<=R+w1'
    · have H:=hdQ (qna t1 t2 t3 t4 t6 hk.out ht hbr)
      rw [eQ1,<-HY.out] at H;have hbr2:(4294967296:Int)<=(R2:Int):=oQ
      clear hk hp hr hqt eP eT eZ eR eQ1 hq1 hbr ht;have H1:=H;clear H;have RS:=RST.out Q1 H1.out;have u2lt:(u*4294967296+a)%Y<Y:=Nat.mod_lt _ (by have:=HY.out;omega)
      rw [H1.out] at FQ;obtain⟨u2,hu2⟩:∃v,(u*4294967296+a)%Y=v:=⟨_,rfl⟩;rw [hu2] at RS u2lt FQ FR;have b1:Q1<4294967296:=by rw [<-H1.out,HY.out];exact kn_q u a w1' w0 t1 t2 t3 t4 t6
      have t6' :u2<w1' *4294967296+w0:=by rw [<-HY.out];exact u2lt
      have st2:=qm9 u2 b w1' w0 t1 t2 t3 t5 t6';obtain⟨c1,e1⟩:=qch ((u:Int)*4294967296);obtain⟨c2,e2⟩:=qch ((c1:Int)+(a:Int));obtain⟨c3,e3⟩:=qch ((Q1:Int)*(Y:Int));rw [e1,e2,e3] at RS;have m1:IntKind.u64.wrap ((u2:Int)/(w1' :Int))=((u2/w1' :Nat):Int):=by rw [<-Int.natCast_ediv];exact qau _ (by have:=st2.top;omega)
      have m2:IntKind.u64.wrap ((u2:Int)-IntKind.u64.wrap (((u2/w1' :Nat):Int)*(w1' :Int)))=((u2-u2/w1' *w1' :Nat):Int):=by
       have hle:=Nat.div_mul_le_self u2 w1'
       rw [show ((u2/w1' :Nat):Int)*(w1' :Int)=((u2/w1' *w1' :Nat):Int) by rw [Int.natCast_mul],qau _ oQ,show (u2:Int)-((u2/w1' *w1' :Nat):Int)=((u2-u2/w1' *w1' :Nat):Int) by omega,qau _ oQ]
      have ST2:=hdQ st2;obtain⟨q2,hq2⟩:∃q,u2/w1' =q:=⟨_,rfl⟩;obtain⟨r2,hr2⟩:∃r,u2-q2*w1' =r:=⟨_,rfl⟩;rw [hq2] at m1 m2 ST2;rw [hr2] at m2 ST2;have RST3:=hdQ (fun q hq=>RST2.out u2 q hq)
      clear st2 hq2 hr2 H1 hu2 u2lt g1 g2
      rcases ht2 with ht|⟨ht,ht'⟩
      all_goals
       go_wp2_with fail;clear P1 P2 P3 P4 P5 hbr2
       (try clear ht)
       (try clear ht')
       clear RS m1 m2 e1 e2 e3
       go_loopw [18,16] (fun q r wr=>∃Qb Rb:Nat,q=.int .u64 Qb/\r=.int .u64 Rb/\Hid (KnI u2 b w1' w0 Qb Rb)/\Below w.heap.size w wr) (fun q _ _=>(intOf q).toNat)
       case atStart=>exact ⟨q2,r2,rfl,rfl,ST2,bel⟩
       case round=>
        obtain⟨Qb,Rb,rfl,rfl,hk,hb⟩:=hrel;have hp:=qqm t3 hk.out;have hr:=hk.out.rest;have hqt:=hk.out.top;obtain⟨Pb,eP⟩:∃Pb,Qb*w0=Pb:=⟨_,rfl⟩;obtain⟨Tb,eT⟩:∃Pb,4294967296*Rb=Pb:=⟨_,rfl⟩;obtain⟨Zb,eZ⟩:∃Pb,Tb+b=Pb:=⟨_,rfl⟩;obtain⟨R2b,eR⟩:∃Pb,Rb+w1' =Pb:=⟨_,rfl⟩;have P1:IntKind.u64.wrap ((Qb:Int)*(w0:Int))=(Pb:Int):=by rw [<-Int.natCast_mul,qau _ hp,eP]
        have P2:IntKind.u64.wrap (4294967296*(Rb:Int))=(Tb:Int):=by rw [show 4294967296*(Rb:Int)=((4294967296*Rb:Nat):Int) by omega,qau _ oQ,eT]
        have P3:IntKind.u64.wrap ((Tb:Int)+(b:Int))=(Zb:Int):=by rw [<-Int.natCast_add,qau _ oQ,eZ]
        have P4:IntKind.u64.wrap ((Rb:Int)+(w1' :Int))=(R2b:Int):=by rw [<-Int.natCast_add,qau _ oQ,eR]
        by_cases ht:4294967296<=Qb\/4294967296*Rb+b<Qb*w0
        · have hq1:1<=Qb:=zix (zly _) (qkm t1 t2 t3 t5 t6' hk.out ht)
          obtain⟨Q1b,eQ1⟩:∃Pb,Qb-1=Pb:=⟨_,rfl⟩;have P5:IntKind.u64.wrap ((Qb:Int)-1)=(Q1b:Int):=by rw [show (Qb:Int)-1=((Qb-1:Nat):Int) by omega,qau _ oQ,eQ1]
          have ht2:(4294967296:Int)<=(Qb:Int)\/(¬ (4294967296:Int)<=(Qb:Int))/\(Zb:Int)<(Pb:Int):=by
           rw [eT,eZ,eP] at ht
           omega
          by_cases hbr:4294967296<=Rb+w1'
          · have H:=hdQ (qna t1 t2 t3 t5 t6' hk.out ht hbr)
            rw [eQ1,<-HY.out] at H;have hbr2:(4294967296:Int)<=(R2b:Int):=oQ
            clear hk hp hr hqt eP eT eZ eR eQ1 hq1 hbr ht;have D1:=RST3.out Q1b H.out;have b2:Q1b<4294967296:=by rw [<-H.out,HY.out];exact kn_q u2 b w1' w0 t1 t2 t3 t5 t6'
            rw [H.out] at FQ;obtain⟨rm,hrm⟩:∃v,(u2*4294967296+b)%Y=v:=⟨_,rfl⟩;rw [hrm] at D1 FR;obtain⟨fx,hfx⟩:∃v,Q1*4294967296=v:=⟨_,rfl⟩;obtain⟨fq,hfq⟩:∃v,fx+Q1b=v:=⟨_,rfl⟩;rw [hfx,hfq] at FQ;obtain⟨fr,hfr⟩:∃v,rm/2 ^ s=v:=⟨_,rfl⟩;rw [hfr] at FR;obtain⟨c4,e4⟩:=qch ((u2:Int)*4294967296);obtain⟨c5,e5⟩:=qch ((c4:Int)+(b:Int));obtain⟨c6,e6⟩:=qch ((Q1b:Int)*(Y:Int));rw [e4,e5,e6] at D1;have D3:(rm:Int)/2 ^ s=(fr:Int):=by rw [<-hfr,Int.natCast_ediv,Int.natCast_pow];rfl
            have D2:IntKind.u64.wrap ((Q1:Int)*4294967296)=(fx:Int):=by rw [show (Q1:Int)*4294967296=((Q1*4294967296:Nat):Int) by omega,qau _ oQ,hfx]
            have D4:IntKind.u64.wrap ((fx:Int)+(Q1b:Int))=(fq:Int):=by rw [<-Int.natCast_add,hfq,qau _ oQ]
            clear hrm hfx hfq hfr H b2
            rcases ht2 with ht|⟨ht,ht'⟩
            all_goals
             go_wp2_with fail;clear P1 P2 P3 P4 P5 hbr2
             (try clear ht)
             (try clear ht')
             rw [FQ.out,FR.out]
             go_ret2
             exact⟨rfl,bel⟩
          · have H:=hdQ (qql t1 t2 t3 t5 t6' hk.out ht oQ)
            rw [eQ1,eR] at H;have hlt:Q1b<Qb:=oQ
            have hbr2:¬ (4294967296:Int)<=(R2b:Int):=oQ
            clear hk hp hr hqt eP eT eZ eR eQ1 hq1 hbr ht
            rcases ht2 with ht|⟨ht,ht'⟩
            all_goals
             go_wp2_with fail
             go_roundw
             case rel=>exact ⟨Q1b,R2b,rfl,rfl,H,bel⟩
             case measure=>simp [intOf];omega
        · have H:=hdQ (qsg t1 hk.out.sum hk.out.low oQ)
          rw [<-HY.out] at H;have hq2:¬ (4294967296:Int)<=(Qb:Int):=oQ
          have hq3:¬ (Zb:Int)<(Pb:Int):=by rw [eT,eZ,eP] at ht;omega
          clear hk hp hr hqt eP eT eZ eR ht;have D1:=RST3.out Qb H.out;have b2:Qb<4294967296:=by rw [<-H.out,HY.out];exact kn_q u2 b w1' w0 t1 t2 t3 t5 t6'
          rw [H.out] at FQ;obtain⟨rm,hrm⟩:∃v,(u2*4294967296+b)%Y=v:=⟨_,rfl⟩;rw [hrm] at D1 FR;obtain⟨fx,hfx⟩:∃v,Q1*4294967296=v:=⟨_,rfl⟩;obtain⟨fq,hfq⟩:∃v,fx+Qb=v:=⟨_,rfl⟩;rw [hfx,hfq] at FQ;obtain⟨fr,hfr⟩:∃v,rm/2 ^ s=v:=⟨_,rfl⟩;rw [hfr] at FR;obtain⟨c4,e4⟩:=qch ((u2:Int)*4294967296);obtain⟨c5,e5⟩:=qch ((c4:Int)+(b:Int));obtain⟨c6,e6⟩:=qch ((Qb:Int)*(Y:Int));rw [e4,e5,e6] at D1;have D3:(rm:Int)/2 ^ s=(fr:Int):=by rw [<-hfr,Int.natCast_ediv,Int.natCast_pow];rfl
          have D2:IntKind.u64.wrap ((Q1:Int)*4294967296)=(fx:Int):=by rw [show (Q1:Int)*4294967296=((Q1*4294967296:Nat):Int) by omega,qau _ oQ,hfx]
          have D4:IntKind.u64.wrap ((fx:Int)+(Qb:Int))=(fq:Int):=by rw [<-Int.natCast_add,hfq,qau _ oQ]
          clear hrm hfx hfq hfr H b2;go_wp2_with fail;clear P1 P2 P3 P4 hq2 hq3
          rw [FQ.out,FR.out]
          go_ret2
          exact⟨rfl,bel⟩
    · have H:=hdQ (qql t1 t2 t3 t4 t6 hk.out ht oQ)
      rw [eQ1,eR] at H;have hlt:Q1<Q:=oQ
      have hbr2:¬ (4294967296:Int)<=(R2:Int):=oQ
      clear hk hp hr hqt eP eT eZ eR eQ1 hq1 hbr ht
      rcases ht2 with ht|⟨ht,ht'⟩
      all_goals
       go_wp2_with fail
       go_roundw
       case rel=>exact ⟨Q1,R2,rfl,rfl,H,bel⟩
       case measure=>simp [intOf];omega
  · have H:=hdQ (qsg t1 hk.out.sum hk.out.low oQ)
    rw [<-HY.out] at H;have hq2:¬ (4294967296:Int)<=(Q:Int):=oQ
    have hq3:¬ (Z:Int)<(P:Int):=by rw [eT,eZ,eP] at ht;omega
    clear hk hp hr hqt eP eT eZ eR ht;have H1:=H;clear H;have RS:=RST.out Q H1.out;have u2lt:(u*4294967296+a)%Y<Y:=Nat.mod_lt _ (by have:=HY.out;omega)
    rw [H1.out] at FQ;obtain⟨u2,hu2⟩:∃v,(u*4294967296+a)%Y=v:=⟨_,rfl⟩;rw [hu2] at RS u2lt FQ FR;have b1:Q<4294967296:=by rw [<-H1.out,HY.out];exact kn_q u a w1' w0 t1 t2 t3 t4 t6
    have t6' :u2<w1' *4294967296+w0:=by rw [<-HY.out];exact u2lt
    have st2:=qm9 u2 b w1' w0 t1 t2 t3 t5 t6';obtain⟨c1,e1⟩:=qch ((u:Int)*4294967296);obtain⟨c2,e2⟩:=qch ((c1:Int)+(a:Int));obtain⟨c3,e3⟩:=qch ((Q:Int)*(Y:Int));rw [e1,e2,e3] at RS;have m1:IntKind.u64.wrap ((u2:Int)/(w1' :Int))=((u2/w1' :Nat):Int):=by rw [<-Int.natCast_ediv];exact qau _ (by have:=st2.top;omega)
    have m2:IntKind.u64.wrap ((u2:Int)-IntKind.u64.wrap (((u2/w1' :Nat):Int)*(w1' :Int)))=((u2-u2/w1' *w1' :Nat):Int):=by
     have hle:=Nat.div_mul_le_self u2 w1'
     rw [show ((u2/w1' :Nat):Int)*(w1' :Int)=((u2/w1' *w1' :Nat):Int) by rw [Int.natCast_mul],qau _ oQ,show (u2:Int)-((u2/w1' *w1' :Nat):Int)=((u2-u2/w1' *w1' :Nat):Int) by omega,qau _ oQ]
    have ST2:=hdQ st2;obtain⟨q2,hq2⟩:∃q,u2/w1' =q:=⟨_,rfl⟩;obtain⟨r2,hr2⟩:∃r,u2-q2*w1' =r:=⟨_,rfl⟩;rw [hq2] at m1 m2 ST2;rw [hr2] at m2 ST2;have RST3:=hdQ (fun q hq=>RST2.out u2 q hq)
    clear st2 hq2 hr2 H1 hu2 u2lt g1 g2;go_wp2_with fail;clear P1 P2 P3 P4 hq2 hq3;clear RS m1 m2 e1 e2 e3
    go_loopw [18,16] (fun q r wr=>∃Qb Rb:Nat,q=.int .u64 Qb/\r=.int .u64 Rb/\Hid (KnI u2 b w1' w0 Qb Rb)/\Below w.heap.size w wr) (fun q _ _=>(intOf q).toNat)
    case atStart=>exact ⟨q2,r2,rfl,rfl,ST2,bel⟩
    case round=>
     obtain⟨Qb,Rb,rfl,rfl,hk,hb⟩:=hrel;have hp:=qqm t3 hk.out;have hr:=hk.out.rest;have hqt:=hk.out.top;obtain⟨Pb,eP⟩:∃Pb,Qb*w0=Pb:=⟨_,rfl⟩;obtain⟨Tb,eT⟩:∃Pb,4294967296*Rb=Pb:=⟨_,rfl⟩;obtain⟨Zb,eZ⟩:∃Pb,Tb+b=Pb:=⟨_,rfl⟩;obtain⟨R2b,eR⟩:∃Pb,Rb+w1' =Pb:=⟨_,rfl⟩;have P1:IntKind.u64.wrap ((Qb:Int)*(w0:Int))=(Pb:Int):=by rw [<-Int.natCast_mul,qau _ hp,eP]
     have P2:IntKind.u64.wrap (4294967296*(Rb:Int))=(Tb:Int):=by rw [show 4294967296*(Rb:Int)=((4294967296*Rb:Nat):Int) by omega,qau _ oQ,eT]
     have P3:IntKind.u64.wrap ((Tb:Int)+(b:Int))=(Zb:Int):=by rw [<-Int.natCast_add,qau _ oQ,eZ]
     have P4:IntKind.u64.wrap ((Rb:Int)+(w1' :Int))=(R2b:Int):=by rw [<-Int.natCast_add,qau _ oQ,eR]
     by_cases ht:4294967296<=Qb\/4294967296*Rb+b<Qb*w0
     · have hq1:1<=Qb:=zix (zly _) (qkm t1 t2 t3 t5 t6' hk.out ht)
       obtain⟨Q1b,eQ1⟩:∃Pb,Qb-1=Pb:=⟨_,rfl⟩;have P5:IntKind.u64.wrap ((Qb:Int)-1)=(Q1b:Int):=by rw [show (Qb:Int)-1=((Qb-1:Nat):Int) by omega,qau _ oQ,eQ1]
       have ht2:(4294967296:Int)<=(Qb:Int)\/(¬ (4294967296:Int)<=(Qb:Int))/\(Zb:Int)<(Pb:Int):=by
        rw [eT,eZ,eP] at ht
        omega
       by_cases hbr:4294967296<=Rb+w1'
       · have H:=hdQ (qna t1 t2 t3 t5 t6' hk.out ht hbr)
         rw [eQ1,<-HY.out] at H;have hbr2:(4294967296:Int)<=(R2b:Int):=oQ
         clear hk hp hr hqt eP eT eZ eR eQ1 hq1 hbr ht;have D1:=RST3.out Q1b H.out;have b2:Q1b<4294967296:=by rw [<-H.out,HY.out];exact kn_q u2 b w1' w0 t1 t2 t3 t5 t6'
         rw [H.out] at FQ;obtain⟨rm,hrm⟩:∃v,(u2*4294967296+b)%Y=v:=⟨_,rfl⟩;rw [hrm] at D1 FR;obtain⟨fx,hfx⟩:∃v,Q*4294967296=v:=⟨_,rfl⟩;obtain⟨fq,hfq⟩:∃v,fx+Q1b=v:=⟨_,rfl⟩;rw [hfx,hfq] at FQ;obtain⟨fr,hfr⟩:∃v,rm/2 ^ s=v:=⟨_,rfl⟩;rw [hfr] at FR;obtain⟨c4,e4⟩:=qch ((u2:Int)*4294967296);obtain⟨c5,e5⟩:=qch ((c4:Int)+(b:Int));obtain⟨c6,e6⟩:=qch ((Q1b:Int)*(Y:Int));rw [e4,e5,e6] at D1;have D3:(rm:Int)/2 ^ s=(fr:Int):=by rw [<-hfr,Int.natCast_ediv,Int.natCast_pow];rfl
         have D2:IntKind.u64.wrap ((Q:Int)*4294967296)=(fx:Int):=by rw [show (Q:Int)*4294967296=((Q*4294967296:Nat):Int) by omega,qau _ oQ,hfx]
         have D4:IntKind.u64.wrap ((fx:Int)+(Q1b:Int))=(fq:Int):=by rw [<-Int.natCast_add,hfq,qau _ oQ]
         clear hrm hfx hfq hfr H b2
         rcases ht2 with ht|⟨ht,ht'⟩
         all_goals
          go_wp2_with fail;clear P1 P2 P3 P4 P5 hbr2
          (try clear ht)
          (try clear ht')
          rw [FQ.out,FR.out]
          go_ret2
          exact⟨rfl,bel⟩
       · have H:=hdQ (qql t1 t2 t3 t5 t6' hk.out ht oQ)
         rw [eQ1,eR] at H;have hlt:Q1b<Qb:=oQ
         have hbr2:¬ (4294967296:Int)<=(R2b:Int):=oQ
         clear hk hp hr hqt eP eT eZ eR eQ1 hq1 hbr ht
         rcases ht2 with ht|⟨ht,ht'⟩
         all_goals
          go_wp2_with fail
          go_roundw
          case rel=>exact ⟨Q1b,R2b,rfl,rfl,H,bel⟩
          case measure=>simp [intOf];omega
     · have H:=hdQ (qsg t1 hk.out.sum hk.out.low oQ)
       rw [<-HY.out] at H;have hq2:¬ (4294967296:Int)<=(Qb:Int):=oQ
       have hq3:¬ (Zb:Int)<(Pb:Int):=by rw [eT,eZ,eP] at ht;omega
       clear hk hp hr hqt eP eT eZ eR ht;have D1:=RST3.out Qb H.out;have b2:Qb<4294967296:=by rw [<-H.out,HY.out];exact kn_q u2 b w1' w0 t1 t2 t3 t5 t6'
       rw [H.out] at FQ;obtain⟨rm,hrm⟩:∃v,(u2*4294967296+b)%Y=v:=⟨_,rfl⟩;rw [hrm] at D1 FR;obtain⟨fx,hfx⟩:∃v,Q*4294967296=v:=⟨_,rfl⟩;obtain⟨fq,hfq⟩:∃v,fx+Qb=v:=⟨_,rfl⟩;rw [hfx,hfq] at FQ;obtain⟨fr,hfr⟩:∃v,rm/2 ^ s=v:=⟨_,rfl⟩;rw [hfr] at FR;obtain⟨c4,e4⟩:=qch ((u2:Int)*4294967296);obtain⟨c5,e5⟩:=qch ((c4:Int)+(b:Int));obtain⟨c6,e6⟩:=qch ((Qb:Int)*(Y:Int));rw [e4,e5,e6] at D1;have D3:(rm:Int)/2 ^ s=(fr:Int):=by rw [<-hfr,Int.natCast_ediv,Int.natCast_pow];rfl
       have D2:IntKind.u64.wrap ((Q:Int)*4294967296)=(fx:Int):=by rw [show (Q:Int)*4294967296=((Q*4294967296:Nat):Int) by omega,qau _ oQ,hfx]
       have D4:IntKind.u64.wrap ((fx:Int)+(Qb:Int))=(fq:Int):=by rw [<-Int.natCast_add,hfq,qau _ oQ]
       clear hrm hfx hfq hfr H b2;go_wp2_with fail;clear P1 P2 P3 P4 hq2 hq3
       rw [FQ.out,FR.out]
       go_ret2
       exact⟨rfl,bel⟩
theorem qxh (hi lo y:Nat) (hlo:lo<18446744073709551616) (hy:y<18446744073709551616) (hh:hi<y) (w:World):
 C9 157 #[.int .u64 hi,.int .u64 lo,.int .u64 y] w (Ret w (.tuple #[.int .u64 (((hi*18446744073709551616+lo)/y:Nat):Int),.int .u64 (((hi*18446744073709551616+lo)%y:Nat):Int)])):=by
 rcases Nat.eq_zero_or_pos hi with h|h
 · subst h
   have:=qt9 lo y hlo hh hy w
   rw [Nat.zero_mul,Nat.zero_add]
   exact this
 · exact qua hi lo y hlo hy h hh w
end Go.Proofs.YtfnhnjbkkggbeaaGreat
