/-Contracts of package wide-/
import Derived.Test.YtfnhnjbkkggbeaaGreatKRing
import Derived.Lib.Mul64
import Derived.Shelf.Bits.Mul64
import Derived.Laws.Externs
set_option linter.unusedVariables false
set_option linter.unusedSimpArgs false
set_option maxHeartbeats 1000000
set_option maxRecDepth 20000
namespace Go.Proofs.YtfnhnjbkkggbeaaGreat
open Go.RowKit Pg
theorem q2f (x y c:Nat) (hc:c<=1) (w:World):
 (callFunc 147 #[.int .u64 x,.int .u64 y,.int .u64 c]).run Tryz.prog w=
   .ok (.value (.tuple #[.int .u64 (((x+y+c)%18446744073709551616:Nat):Int),.int .u64 (((x+y+c)/18446744073709551616:Nat):Int)])) w:=by
 rw [run_callFunc_extern Tryz.func147 kr kr kr (e:=add64Entry) kr,run_add64 x y c oQ oQ oQ oQ]
 simp only [Result.andThen]
 congr 5<;>omega
theorem qwq (x y:Nat) (hx:x<18446744073709551616) (hy:y<18446744073709551616) (w:World):
 C9 149 #[.int .u64 x,.int .u64 y] w (Ret w (.tuple #[.int .u64 ((x*y/18446744073709551616:Nat):Int),.int .u64 ((x*y%18446744073709551616:Nat):Int)])):=by
 obtain⟨bd,bt,bw,hhi⟩:=Lib.mul64_hi x y hx hy;have ba:=Lib.half_mul_le (a:=x/4294967296) (b:=y/4294967296) oQ oQ
 have bb:=Lib.half_mul_le (a:=x/4294967296) (b:=y%4294967296) oQ oQ
 have bc:=Lib.half_mul_le (a:=x%4294967296) (b:=y/4294967296) oQ oQ
 have ba' :x/4294967296*(y/4294967296)<18446744073709551616:=oQ
 have bb' :x/4294967296*(y%4294967296)<18446744073709551616:=oQ
 have bc' :x%4294967296*(y/4294967296)<18446744073709551616:=oQ
 have bh1:x/4294967296*(y/4294967296)+(x/4294967296*(y%4294967296)+x%4294967296*(y%4294967296)/4294967296)/4294967296<18446744073709551616:=oQ
 have bh:x/4294967296*(y/4294967296)+(x/4294967296*(y%4294967296)+x%4294967296*(y%4294967296)/4294967296)/4294967296+((x/4294967296*(y%4294967296)+x%4294967296*(y%4294967296)/4294967296)%4294967296+x%4294967296*(y/4294967296))/4294967296<18446744073709551616:=oQ
 go_enter Tryz.func149,Tryz.ntmps149
 go_wp2
 simp only [Mul64.maskN x hx,Mul64.maskN y hy,Mul64.divN,Mul64.mulN,Mul64.addN,Mul64.wrapN _ bd,Mul64.wrapN _ bb',Mul64.wrapN _ bt,Mul64.maskN _ bt,Mul64.wrapN _ bc',Mul64.wrapN _ bw,Mul64.wrapN _ ba',Mul64.wrapN _ bh1,Mul64.wrapN _ bh,Mul64.wrapM (x*y)]
 rw [hhi]
 go_ret2
 exact⟨rfl,Below.refl _ _⟩
theorem qe6 {P:Program} {c:Code} {Q:Exit->Act->World->Prop} {a:Act} {w:World} (R:World->Prop) (h:R w) (k:∀w2,R w2->c.wp P Q a w2):c.wp P Q a w:=k w h
theorem qaj {P:Program} {f:Func} {Q:Ending->World->Prop} {x:Exit} {a:Act} {w:World} (R:World->Prop) (h:R w) (k:∀w2,R w2->bodyPost P f Q x a w2):bodyPost P f Q x a w:=k w h
abbrev uV (n:Nat):Value:=.agg #[.int .u64 ((n/18446744073709551616:Nat):Int),.int .u64 ((n%18446744073709551616:Nat):Int)]
theorem qat {W:World} {g:Nat} {t:TypeId} {x y z a b c:Value} (h:Blk W g t #[x,y,z]):
 Blk (((W.setCell ⟨g,0,none⟩ a).setCell ⟨g,1,none⟩ b).setCell ⟨g,2,none⟩ c) g t #[a,b,c]:=(((h.set_ 0 a).set_ 1 b).set_ 2 c).eq_ sI
theorem qda {W:World} {g:Nat} {t:TypeId} {x y a b:Value} (h:Blk W g t #[x,y]):
 Blk ((W.setCell ⟨g,0,none⟩ a).setCell ⟨g,1,none⟩ b) g t #[a,b]:=((h.set_ 0 a).set_ 1 b).eq_ sI
theorem qmo (x y:Nat) (hx:x<18446744073709551616) (hy:y<18446744073709551616) (w:World):
 C9 131 #[.int .u64 x,.int .u64 y] w (Ret w (uV (x*y))):=by
 go_enter Tryz.func131,Tryz.ntmps131
 go_wp2_with (go_at_call 149;refine(qwq _ _ hx hy _).monoR ?_;rintro w1 hb1 hc1 hf1 hz1;(try simp at hz1);have hy0:=ol1 w w1)
 refine qaj (R:=fun w2=>Blk w2 w.heap.size 173 #[.int .u64 ((x*y/18446744073709551616:Nat):Int),.int .u64 ((x*y%18446744073709551616:Nat):Int)]/\Below w.heap.size w w2) ⟨?_,bel⟩ ?_
 · exact qda (x:=.int .u64 0) (y:=.int .u64 0) blkA
 rintro w2 ⟨HR,hb2⟩;obtain⟨r0,r1⟩:=ce2 HR;exact bodyPost_ret (v:=uV (x*y)) (by simp [results,Tryz.results131,go_sem,r0,r1]) rfl ⟨rfl,hb2⟩
theorem qyh (n:Int) (h1: -9223372036854775808<=n) (h2:n<9223372036854775808) (w:World):
 C9 132 #[.int .i64 n] w (Ret w (.int .u64 (n.natAbs:Int))):=by
 by_cases hn:n<0
 · have e:IntKind.u64.wrap (-(IntKind.u64.wrap n))=(n.natAbs:Int):=by rw [IntKind.wrap_u64,IntKind.wrap_u64];omega
   go_enter Tryz.func132,Tryz.ntmps132
   go_wp2;go_ret;exact⟨rfl,bel⟩
 · have e:IntKind.u64.wrap n=(n.natAbs:Int):=by rw [IntKind.wrap_u64];omega
   go_enter Tryz.func132,Tryz.ntmps132
   go_wp2;go_ret;exact⟨rfl,bel⟩
theorem qeh (n:Int) (h1: -9223372036854775808<=n) (h2:n<9223372036854775808) (w:World):
 C9 97 #[.int .i64 n] w (Ret w (uV (n.natAbs*n.natAbs))):=by
 have hN:n.natAbs<18446744073709551616:=oQ
 have HS:=hdQ (fun w=>qyh n h1 h2 w)
 obtain⟨N,hN0⟩:∃N,n.natAbs=N:=⟨_,rfl⟩
 rw [hN0] at HS hN ⊢
 clear hN0
 go_enter Tryz.func97,Tryz.ntmps97
 go_wp2_with (first|(go_at_call 132;refine(HS.out _).monoR ?_;rintro w1 hb1 hc1 hf1 hz1;(try simp at hz1);have hy0:=ol1 w w1)|(go_at_call 131;refine(qmo _ _ hN hN _).monoR ?_;rintro w1 hb1 hc1 hf1 hz1;(try simp at hz1);have hy0:=ol1 w w1))
 refine qaj (R:=fun w2=>Blk w2 w.heap.size 173 #[.int .u64 ((N*N/18446744073709551616:Nat):Int),.int .u64 ((N*N%18446744073709551616:Nat):Int)]/\Below w.heap.size w w2) ⟨?_,bel⟩ ?_
 · exact qda (x:=.int .u64 0) (y:=.int .u64 0) blkA
 rintro w2 ⟨HR,hb2⟩;obtain⟨r0,r1⟩:=ce2 HR;exact bodyPost_ret (v:=uV (N*N)) (by simp [results,Tryz.results97,go_sem,r0,r1]) rfl ⟨rfl,hb2⟩
theorem qut (a b:Nat) (ha:a<340282366920938463463374607431768211456) (hb:b<340282366920938463463374607431768211456):
 (a%18446744073709551616+b%18446744073709551616)%18446744073709551616=(a+b)%18446744073709551616/\
 (a/18446744073709551616+b/18446744073709551616+(a%18446744073709551616+b%18446744073709551616)/18446744073709551616)=(a+b)/18446744073709551616:=oQ
theorem qx6 (a b:Nat) (h:a+b<340282366920938463463374607431768211456) (w:World):
 C9 129 #[uV a,uV b] w (Ret w (.tuple #[uV (a+b),.bool false])):=by
 obtain⟨e1,e2⟩:=qut a b oQ oQ
 have e3:(a+b)/18446744073709551616<18446744073709551616:=oQ
 have c1:(a%18446744073709551616+b%18446744073709551616)/18446744073709551616<=1:=oQ
 obtain⟨uh,hah⟩:∃x,a/18446744073709551616=x:=⟨_,rfl⟩;obtain⟨ul,hal⟩:∃x,a%18446744073709551616=x:=⟨_,rfl⟩;obtain⟨vh,hbh⟩:∃x,b/18446744073709551616=x:=⟨_,rfl⟩;obtain⟨vl,hbl⟩:∃x,b%18446744073709551616=x:=⟨_,rfl⟩;obtain⟨sh,hsh⟩:∃x,(a+b)/18446744073709551616=x:=⟨_,rfl⟩;obtain⟨sl,hsl⟩:∃x,(a+b)%18446744073709551616=x:=⟨_,rfl⟩;obtain⟨cy,hcy⟩:∃x,(a%18446744073709551616+b%18446744073709551616)/18446744073709551616=x:=⟨_,rfl⟩;have A1:=fun w=>q2f ul vl 0 dE w
 have A2:=fun w=>q2f uh vh cy oQ w
 simp only [uV]
 rw [hah,hal,hbh,hbl,hsh,hsl]
 rw [hah,hbh,hcy,hsh] at e2;rw [hal,hbl,hsl] at e1;rw [hal,hbl] at hcy;rw [Nat.add_zero,e1,hcy] at A1;rw [e2,zzy oQ,Nat.div_eq_of_lt oQ] at A2
 have A3:∀w,(callFunc 147 #[.int .u64 ul,.int .u64 vl,.int .u64 0]).run Tryz.prog w=.ok (.value (.tuple #[.int .u64 sl,.int .u64 cy])) w:=A1;clear e1 e2 e3 c1 hah hal hbh hbl hsh hsl hcy h A1
 go_enter Tryz.func129,Tryz.ntmps129
 go_wp2;exact bodyPost_ret (v:=.tuple #[.agg #[.int .u64 sh,.int .u64 sl],.bool false]) (by simp [results,Tryz.results129,go_sem]) rfl ⟨rfl,bel⟩
def gapN (n lo hi:Int):Int:=max (max (lo-n) (n-hi)) 0
def sqN (x y:Int):Nat:=x.natAbs*x.natAbs+y.natAbs*y.natAbs
abbrev dV (n:Nat):Value:=.agg #[.int .u64 ((n/18446744073709551616:Nat):Int),.int .u64 ((n%18446744073709551616:Nat):Int),.int .u64 1]
abbrev dZ:Value:=.agg #[.int .u64 0,.int .u64 0,.int .u64 0]
theorem qw7 (n lo hi:Int) (h1: -1073741823<=n) (h2:n<=1073741823) (h3: -1073741823<=lo) (h4:lo<=1073741823) (h5: -1073741823<=hi) (h6:hi<=1073741823) (w:World):
 C9 93 #[.int .i64 n,.int .i64 lo,.int .i64 hi] w (Ret w (.int .i64 (gapN n lo hi))):=by
 have e1:IntKind.i64.wrap (lo-n)=lo-n:=by rw [IntKind.wrap_i64];omega
 have e2:IntKind.i64.wrap (n-hi)=n-hi:=by rw [IntKind.wrap_i64];omega
 go_enter Tryz.func93,Tryz.ntmps93
 go_wp2
 all_goals go_ret
 all_goals exact⟨by simp [gapN];omega,bel⟩
theorem qmb (n lo hi:Int) (h1: -1073741823<=n) (h2:n<=1073741823) (h3: -1073741823<=lo) (h4:lo<=1073741823) (h5: -1073741823<=hi) (h6:hi<=1073741823):0<=gapN n lo hi/\gapN n lo hi<=2147483646:=by unfold gapN;omega
theorem qgl {x:Int} (h1: -4294967296<=x) (h2:x<=4294967296):x.natAbs*x.natAbs<=18446744073709551616:=by
 have h:x.natAbs<=4294967296:=oQ
 exact Nat.mul_le_mul h h
theorem qj3 (x y:Int) (h1: -4294967296<=x) (h2:x<=4294967296) (h3: -4294967296<=y) (h4:y<=4294967296) (w:World):
 C9 92 #[.int .i64 x,.int .i64 y] w (Ret w (dV (sqN x y))):=by
 have b1:=qgl h1 h2;have b2:=qgl h3 h4;have H1:=hdQ (fun w=>qeh x oQ oQ w)
 have H2:=hdQ (fun w=>qeh y oQ oQ w)
 unfold sqN;obtain⟨N,hN⟩:∃N,x.natAbs*x.natAbs=N:=⟨_,rfl⟩;obtain⟨M,hM⟩:∃N,y.natAbs*y.natAbs=N:=⟨_,rfl⟩
 rw [hN] at b1 H1 ⊢
 rw [hM] at b2 H2 ⊢
 have H3:=hdQ (fun w=>qx6 N M oQ w)
 obtain⟨hi,hhi⟩:∃s,(N+M)/18446744073709551616=s:=⟨_,rfl⟩;obtain⟨lo,hlo⟩:∃s,(N+M)%18446744073709551616=s:=⟨_,rfl⟩
 simp only [uV,dV,hhi,hlo] at H3 ⊢
 clear hN hM b1 b2 hhi hlo h1 h2 h3 h4
 go_enter Tryz.func92,Tryz.ntmps92
 go_wp2_with (first|(go_at_call 97;have _h:=hza;refine(H2.out _).monoR ?_;rintro w1 hb1 hc1 hf1 hz1;(try simp at hz1);have hy0:=ol1 w w1)|(go_at_call 97;refine(H1.out _).monoR ?_;rintro wa hba hca hfa hza;(try simp at hza);have hya:=ol1 w wa)|(go_at_call 129;refine(H3.out _).monoR ?_;rintro w1 hb1 hc1 hf1 hz1;(try simp at hz1);have hy0:=ol1 w w1))
 refine qaj (R:=fun w2=>Blk w2 w.heap.size 71 #[.int .u64 hi,.int .u64 lo,.int .u64 1]/\Below w.heap.size w w2) ⟨?_,bel⟩ ?_
 · exact(qat (x:=.int .u64 0) (y:=.int .u64 0) (z:=.int .u64 0) blkA).alloc _
 rintro w2 ⟨HR,hb2⟩;obtain⟨r0,r1,r2⟩:=ce3 HR;exact bodyPost_ret (v:=.agg #[.int .u64 hi,.int .u64 lo,.int .u64 1]) (by simp [results,Tryz.results92,go_sem,r0,r1,r2]) rfl ⟨rfl,hb2⟩
end Go.Proofs.YtfnhnjbkkggbeaaGreat
