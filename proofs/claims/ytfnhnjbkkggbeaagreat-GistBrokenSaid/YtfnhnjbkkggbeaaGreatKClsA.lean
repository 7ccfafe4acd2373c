/-The verifier's classes,plainly;a class whose keys are boxes that hold -/
import Derived.Test.YtfnhnjbkkggbeaaGreatKLawsM
set_option linter.unusedVariables false
set_option linter.unusedSimpArgs false
set_option maxHeartbeats 4000000
set_option maxRecDepth 20000
namespace Pg
def dnG (bits:Nat) (n:Int):Int:=max (n/(2:Int) ^ bits*(2:Int) ^ bits) (-1073741823)
def upG (bits:Nat) (n:Int):Int:=min (-((-n)/(2:Int) ^ bits*(2:Int) ^ bits)) 1073741823
theorem q0s {bits:Nat} {n:Int} (h: -1073741823<=n) (k:n<=1073741823): -1073741823<=dnG bits n/\dnG bits n<=n:=by
 have h1:=Int.ediv_mul_le n (b:=(2:Int) ^ bits) (Int.ne_of_gt (Int.pow_pos dE))
 unfold dnG
 omega
theorem q0l {bits:Nat} {n:Int} (h: -1073741823<=n) (k:n<=1073741823):upG bits n<=1073741823/\n<=upG bits n:=by
 have h1:=Int.ediv_mul_le (-n) (b:=(2:Int) ^ bits) (Int.ne_of_gt (Int.pow_pos dE))
 unfold upG
 omega
def qd6 (kd:Int) (bits:Nat) (b:Bx):Bx:=
 if kd=1 then⟨⟨dnG bits b.lo.x,dnG bits b.lo.y⟩,⟨upG bits b.hi.x,upG bits b.hi.y⟩⟩
 else if kd=2 then⟨⟨b.lo.x,-1073741823⟩,⟨b.hi.x,1073741823⟩⟩ else b
end Pg
namespace Go.Proofs.YtfnhnjbkkggbeaaGreat
open Go.RowKit Pg
theorem qkh {b:Bx}:okBx b=true↔(-1073741823<=b.lo.x/\b.lo.x<=b.hi.x/\b.hi.x<=1073741823)/\(-1073741823<=b.lo.y/\b.lo.y<=b.hi.y/\b.hi.y<=1073741823):=by
 rw [Pg.qca]
 constructor
 · rintro⟨⟨h1,h2⟩,h3,h4⟩
   have p1:=qa5 h1;have p2:=qa5 h2
   omega
 · intro h
   have q:∀x y:Int,-1073741823<=x->x<=1073741823-> -1073741823<=y->y<=1073741823->okPt ⟨x,y⟩=true:=fun x y a b c d=>by
    unfold okPt farB
    simp
    omega
   exact⟨⟨q b.lo.x b.lo.y oQ oQ oQ oQ,q b.hi.x b.hi.y oQ oQ oQ oQ⟩,by omega,by omega⟩
theorem qpe {kd:Int} {bits:Nat} {b:Bx} (h:okBx b=true):okBx (qd6 kd bits b)=true/\inB (qd6 kd bits b) b:=by
 have hb:=qkh.1 h
 rw [qkh]
 unfold qd6 inB
 split
 · have d1:=q0s (bits:=bits) (n:=b.lo.x) oQ oQ
   have d2:=q0s (bits:=bits) (n:=b.lo.y) oQ oQ
   have u1:=q0l (bits:=bits) (n:=b.hi.x) oQ oQ
   have u2:=q0l (bits:=bits) (n:=b.hi.y) oQ oQ
   simp only
   omega
 · split
   · simp only
     omega
   · omega
def clsC (kd:Int) (bits:Nat) (one:Bool) (brk:Int):Cl where
 make o:=(ckOb o,if ckOb o=0 then(if brk=1 then List.replicate 65 0 else if kd=0 then [] else keyL (qd6 kd bits (qa2 o))) else [])
 cons Y q:=if brk=2 then false else if kd=0 then true else qo5 Y q
 far Y p:=if brk=3 then⟨1152921504606846976*18446744073709551616,1⟩ else if kd=0 then⟨0,1⟩ else farS Y p
 un L:=if kd=0\/L= [] then [] else if brk=4 then L.headD [] else qf5 L
 split L:=if brk=5 then List.replicate L.length false else if one=true/\0<L.length then List.replicate (L.length-1) false++ [true]
  else if kd=0 then List.replicate (L.length/2) true++List.replicate (L.length-L.length/2) false else qix (L.map boxK)
theorem q1t {b:Bx} (h:okBx b=true):(keyL b).length<=64:=by
 have:=(qhz (qio h)).2
 omega
abbrev clV (kd:Int) (bits:Nat) (one:Bool) (brk:Int):Value:=.agg #[.int .i64 kd,.int .i64 bits,.bool one,.int .i64 brk]
theorem q2d {bits:Nat} (hb:bits<=20):(0:Int)<(2:Int) ^ bits/\(2:Int) ^ bits<=1048576:=by
 have e:(2:Int) ^ bits=((2 ^ bits:Nat):Int):=sI
 have h:=Nat.pow_le_pow_right (n:=2) dE hb
 have h0:=Nat.two_pow_pos bits
 rw [e]
 have:(2:Nat) ^ 20=1048576:=by decide
 omega
theorem qwp {bits:Nat} (hb:bits<=20) (n:Int):n-1048576<n/(2:Int) ^ bits*(2:Int) ^ bits/\n/(2:Int) ^ bits*(2:Int) ^ bits<=n:=by
 obtain⟨h0,h1⟩:=q2d hb;have e:=Int.mul_ediv_add_emod n ((2:Int) ^ bits);rw [Int.mul_comm] at e;have e1:=Int.emod_nonneg n (Int.ne_of_gt h0);have e2:=Int.emod_lt_of_pos n h0
 omega
theorem qk0 (kd:Int) (bits:Nat) (one:Bool) (brk n:Int) (hb:bits<=20) (h: -1073741823<=n) (k:n<=1073741823) (w:World):
 C9 199 #[clV kd bits one brk,.int .i64 n] w (Ret w (.int .i64 (dnG bits n))):=by
 have hm:=qwp hb n;have hw:IntKind.i64.wrap (n/(2:Int) ^ bits*(2:Int) ^ bits)=n/(2:Int) ^ bits*(2:Int) ^ bits:=IntWalk.i64_in _ ⟨by omega,by omega⟩
 clear hm
 go_enter Tryz.func199,Tryz.ntmps199
 go_wp2_with fail;refine qac kr kr pq ?_
 simp only [zdy,zey,ldz,lds,bare,qak,lcz,lcs,zay]
 repeat' ((try simp only [Act.put,lsi,lsz,lss]);first|(refine lqx ?_)|(refine qab qaa rfl (fun K hK=> ?_);go_simp;((first|fail|skip)<;>(refine hK.out _ _ bel ?_;clear hK K))))
 (all_goals try simp only [Act.put,lsi,lsz,lss]);all_goals(refine qad ?_)
 go_wp2;go_ret;exact⟨by simp [dnG,hw],bel⟩
theorem qpa (kd:Int) (bits:Nat) (one:Bool) (brk n:Int) (hb:bits<=20) (h: -1073741823<=n) (k:n<=1073741823) (w:World):
 C9 200 #[clV kd bits one brk,.int .i64 n] w (Ret w (.int .i64 (upG bits n))):=by
 have hm:=qwp hb (-n);have hw:IntKind.i64.wrap (-n/(2:Int) ^ bits*(2:Int) ^ bits)= -n/(2:Int) ^ bits*(2:Int) ^ bits:=IntWalk.i64_in _ ⟨by omega,by omega⟩
 have hw0:IntKind.i64.wrap (-n)= -n:=IntWalk.i64_in _ ⟨by omega,by omega⟩
 have hw2:IntKind.i64.wrap (-(-n/(2:Int) ^ bits*(2:Int) ^ bits))= -(-n/(2:Int) ^ bits*(2:Int) ^ bits):=IntWalk.i64_in _ ⟨by omega,by omega⟩
 clear hm
 go_enter Tryz.func200,Tryz.ntmps200
 go_wp2_with fail;refine qac kr kr pq ?_
 simp only [zdy,zey,ldz,lds,bare,qak,lcz,lcs,zay]
 repeat' ((try simp only [Act.put,lsi,lsz,lss]);first|(refine lqx ?_)|(refine qab qaa rfl (fun K hK=> ?_);go_simp;((first|fail|skip)<;>(refine hK.out _ _ bel ?_;clear hK K))))
 (all_goals try simp only [Act.put,lsi,lsz,lss]);all_goals(refine qad ?_)
 go_wp2;go_ret;exact⟨by simp [upG,hw0,hw,hw2],bel⟩
theorem qui (kd:Int) (bits:Nat) (one:Bool) (brk a b c d:Int) (hb:bits<=20) (hx:okBx ⟨⟨a,b⟩,⟨c,d⟩⟩=true) (w:World):
 C9 187 #[clV kd bits one brk,bxV a b c d] w (Ret w (bxV (qd6 kd bits ⟨⟨a,b⟩,⟨c,d⟩⟩).lo.x (qd6 kd bits ⟨⟨a,b⟩,⟨c,d⟩⟩).lo.y (qd6 kd bits ⟨⟨a,b⟩,⟨c,d⟩⟩).hi.x (qd6 kd bits ⟨⟨a,b⟩,⟨c,d⟩⟩).hi.y)):=by
 have hn:=qkh.1 hx
 simp only at hn
 have HD1:=hdQ (fun W=>qk0 kd bits one brk a hb oQ oQ W)
 have HD2:=hdQ (fun W=>qk0 kd bits one brk b hb oQ oQ W)
 have HU1:=hdQ (fun W=>qpa kd bits one brk c hb oQ oQ W)
 have HU2:=hdQ (fun W=>qpa kd bits one brk d hb oQ oQ W)
 clear hn hx
 by_cases h1:kd=1
 · subst h1
   have e:qd6 1 bits ⟨⟨a,b⟩,⟨c,d⟩⟩=⟨⟨dnG bits a,dnG bits b⟩,⟨upG bits c,upG bits d⟩⟩:=by unfold qd6;rw [if_pos rfl]
   rw [e]
   clear e;generalize dnG bits a=a' at*;generalize dnG bits b=b' at*;generalize upG bits c=c' at*;generalize upG bits d=d' at*
   go_enter Tryz.func187,Tryz.ntmps187
   go_wp2_with fail;refine qjr (fun w2=>Below w.heap.size w w2/\Blk w2 w.heap.size 34 #[.int .i64 1,.int .i64 bits,.bool one,.int .i64 brk]/\Blk w2 (w.heap.size+1) 48 #[.int .i64 a,.int .i64 b,.int .i64 c,.int .i64 d]/\Blk w2 (w.heap.size+1+1) 48 #[.int .i64 0,.int .i64 0,.int .i64 0,.int .i64 0]) ⟨bel,blkA,blkA,blkA⟩ ?_
   rintro w2 ⟨hb,hO,hP,hZ⟩;have cO:=hO.cell;have cP:=hP.cell;have cZ:=hZ.cell;have fZ:=hZ.frozen;have lO:=hO.lt;have lP:=hP.lt;have lZ:=hZ.lt;refine qbd (w.heap.size+1+1) [0,1,2,3,5,6,7,8,11,12,13,14,16,17,18,19,4,9,10,15,20,21,22,23] kr kr pq ?_
   simp only [zdy,zey,ldz,lds,bare,qak,lcz,lcs,zay]
   repeat' ((try simp only [Act.put,lsi,lsz,lss]);first|(refine lqy ?_)|(refine qab qaa rfl (fun K hK=> ?_);go_simp;((first|(go_at_call 199;(with_reducible refine(HD1.out _).monoR ?_);rintro w1 hb1 hc1 hf1 hz1;(try simp at hz1);have hbB:Below (w.heap.size+1+1) w2 w1:=(Below.trans (by repeat(first|with_reducible exact Below.refl _ _|with_reducible assumption|with_reducible refine Below.drew ?_)) (hb1.mono (by(try simp);omega)));have hy2:w.heap.size+1+1<w1.heap.size:=oQ;have hZ1:Blk w1 (w.heap.size+1+1) 48 #[.int .i64 0,.int .i64 0,.int .i64 0,.int .i64 0]:=blkA;have hbz:Below w.heap.size w w1:=(Below.trans hb (hbB.mono oQ));have z1:=hZ1.cell;have fz1:=hZ1.frozen)|(go_at_call 199;(with_reducible refine(HD2.out _).monoR ?_);rintro w1 hb1 hc1 hf1 hz1;(try simp at hz1);have hbB:Below (w.heap.size+1+1) w2 w1:=(Below.trans (by repeat(first|with_reducible exact Below.refl _ _|with_reducible assumption|with_reducible refine Below.drew ?_)) (hb1.mono (by(try simp);omega)));have hy2:w.heap.size+1+1<w1.heap.size:=oQ;have hZ1:Blk w1 (w.heap.size+1+1) 48 #[.int .i64 0,.int .i64 0,.int .i64 0,.int .i64 0]:=blkA;have hbz:Below w.heap.size w w1:=(Below.trans hb (hbB.mono oQ));have z1:=hZ1.cell;have fz1:=hZ1.frozen)|(go_at_call 200;(with_reducible refine(HU1.out _).monoR ?_);rintro w1 hb1 hc1 hf1 hz1;(try simp at hz1);have hbB:Below (w.heap.size+1+1) w2 w1:=(Below.trans (by repeat(first|with_reducible exact Below.refl _ _|with_reducible assumption|with_reducible refine Below.drew ?_)) (hb1.mono (by(try simp);omega)));have hy2:w.heap.size+1+1<w1.heap.size:=oQ;have hZ1:Blk w1 (w.heap.size+1+1) 48 #[.int .i64 0,.int .i64 0,.int .i64 0,.int .i64 0]:=blkA;have hbz:Below w.heap.size w w1:=(Below.trans hb (hbB.mono oQ));have z1:=hZ1.cell;have fz1:=hZ1.frozen)|(go_at_call 200;(with_reducible refine(HU2.out _).monoR ?_);rintro w1 hb1 hc1 hf1 hz1;(try simp at hz1);have hbB:Below (w.heap.size+1+1) w2 w1:=(Below.trans (by repeat(first|with_reducible exact Below.refl _ _|with_reducible assumption|with_reducible refine Below.drew ?_)) (hb1.mono (by(try simp);omega)));have hy2:w.heap.size+1+1<w1.heap.size:=oQ;have hZ1:Blk w1 (w.heap.size+1+1) 48 #[.int .i64 0,.int .i64 0,.int .i64 0,.int .i64 0]:=blkA;have hbz:Below w.heap.size w w1:=(Below.trans hb (hbB.mono oQ));have z1:=hZ1.cell;have fz1:=hZ1.frozen)|skip)<;>(refine hK.out _ _ (by first|with_reducible exact qcj|with_reducible exact Below.drew qcj|exact bel) ?_;clear hK K))))
   (all_goals try simp only [Act.put,lsi,lsz,lss]);all_goals(refine qad ?_)
   go_wp2;refine qaj (R:=fun w2=>Blk w2 (w.heap.size+1+1) 48 #[.int .i64 a',.int .i64 b',.int .i64 c',.int .i64 d']/\Below w.heap.size w w2) ⟨?_,bel⟩ ?_
   · repeat(first|with_reducible exact qew (x:=.int .i64 0) (y:=.int .i64 0) (z:=.int .i64 0) (u:=.int .i64 0) blkA|(with_reducible refine Blk.new ?_ rfl;focus(simp;done))|with_reducible refine Blk.alloc ?_ _|with_reducible refine Blk.drew ?_)
   rintro w2 ⟨HR,hb2⟩;obtain⟨r0,r1,r2,r3⟩:=ce4 HR;exact bodyPost_ret (v:=bxV a' b' c' d') (by simp [results,Tryz.results187,go_sem,r0,r1,r2,r3]) rfl ⟨rfl,hb2⟩
 · by_cases h2:kd=2
   · subst h2
     have e:qd6 2 bits ⟨⟨a,b⟩,⟨c,d⟩⟩=⟨⟨a,-1073741823⟩,⟨c,1073741823⟩⟩:=by unfold qd6;rw [if_neg dE,if_pos rfl]
     rw [e]
     clear e HD1 HD2 HU1 HU2
     go_enter Tryz.func187,Tryz.ntmps187
     go_wp2_with fail;refine qaj (R:=fun w2=>Blk w2 (w.heap.size+1+1) 48 #[.int .i64 a,.int .i64 (-1073741823),.int .i64 c,.int .i64 1073741823]/\Below w.heap.size w w2) ⟨?_,bel⟩ ?_
     · repeat(first|with_reducible exact qew (x:=.int .i64 0) (y:=.int .i64 0) (z:=.int .i64 0) (u:=.int .i64 0) blkA|(with_reducible refine Blk.new ?_ rfl;focus(simp;done))|with_reducible refine Blk.alloc ?_ _|with_reducible refine Blk.drew ?_)
     rintro w2 ⟨HR,hb2⟩;obtain⟨r0,r1,r2,r3⟩:=ce4 HR;exact bodyPost_ret (v:=bxV a (-1073741823) c 1073741823) (by simp [results,Tryz.results187,go_sem,r0,r1,r2,r3]) rfl ⟨rfl,hb2⟩
   · have e:qd6 kd bits ⟨⟨a,b⟩,⟨c,d⟩⟩=⟨⟨a,b⟩,⟨c,d⟩⟩:=by unfold qd6;rw [if_neg h1,if_neg h2]
     rw [e]
     have e1:(kd==1)=false:=by rw [beq_eq_false_iff_ne];exact h1
     have e2:(kd==2)=false:=by rw [beq_eq_false_iff_ne];exact h2
     clear e HD1 HD2 HU1 HU2 h1 h2
     go_enter Tryz.func187,Tryz.ntmps187
     go_wp2_with fail;refine qaj (R:=fun w2=>Blk w2 (w.heap.size+1+1) 48 #[.int .i64 a,.int .i64 b,.int .i64 c,.int .i64 d]/\Below w.heap.size w w2) ⟨?_,bel⟩ ?_
     · repeat(first|with_reducible exact qew (x:=.int .i64 0) (y:=.int .i64 0) (z:=.int .i64 0) (u:=.int .i64 0) blkA|(with_reducible refine Blk.new ?_ rfl;focus(simp;done))|with_reducible refine Blk.alloc ?_ _|with_reducible refine Blk.drew ?_)
     rintro w2 ⟨HR,hb2⟩;obtain⟨r0,r1,r2,r3⟩:=ce4 HR;exact bodyPost_ret (v:=bxV a b c d) (by simp [results,Tryz.results187,go_sem,r0,r1,r2,r3]) rfl ⟨rfl,hb2⟩
theorem qxt {w:World} {g B:Nat} {l:List Nat} (h:Blk w g 5 (qap l).toArray) (hB:B<=g) (hl:l.length<=1000000):w.ownsRow B 5 1 (.slice (some ⟨g,0,none⟩) l.length l.length) l.length (qap l):=
 ⟨by simp [qap],.inr ⟨g,l.length,_,rfl,hB,h,zhy _,by unfold maxLen;omega,by simp [qap],by rw [List.toList_toArray,zmy (by simp [qap])]⟩⟩
theorem q29 (n:Nat):madeCells #[Value.int .u8 0] n=(qap (List.replicate n 0)).toArray:=by
 apply Array.ext_getElem?
 intro j
 by_cases hj:j<n
 · simp [madeCells,qap,hj,Nat.mod_one]
 · simp [madeCells,qap,hj]
theorem q28 (n:Nat) (hn:n<=1000000) (w:World):(Instr.makeSlice 94 (.int .i64 (n:Int)) (.int .i64 (n:Int))).run Tryz.prog w=.ok (.slice (some ⟨w.heap.size,0,none⟩) n n) (w.alloc (.cells (qap (List.replicate n 0)).toArray 5)):=by
 rw [<-q29]
 exact run_make_row' _ _ (.int .u8 0) 1 Tryz.underlying94 Tryz.infoByte rfl .i64 .i64 n oQ oQ w
theorem qq7 (kd:Int) (bits:Nat) (one:Bool) (brk:Int) (hbits:bits<=20) (B n c:Nat) (k:Int) (A:Option Addr) (l:List Pt) (w:World) (hl:qal w B A n l) (hB:B<=w.heap.size) (hn:n<=1000000):
 C9 178 #[clV kd bits one brk,obV k A n c] w fun e w' =>∃s,e=.returned (.tuple #[s,errV ((clsC kd bits one brk).make ⟨k,l⟩).1])/\w'.ownsRow w.heap.size 5 1 s ((clsC kd bits one brk).make ⟨k,l⟩).2.length (qap ((clsC kd bits one brk).make ⟨k,l⟩).2)/\Below w.heap.size w w' :=by
 have e1:((clsC kd bits one brk).make ⟨k,l⟩).1=ckOb ⟨k,l⟩:=rfl;have e2:((clsC kd bits one brk).make ⟨k,l⟩).2=if ckOb ⟨k,l⟩=0 then(if brk=1 then List.replicate 65 0 else if kd=0 then [] else keyL (qd6 kd bits (qa2 ⟨k,l⟩))) else []:=rfl
 rw [e1,e2]
 clear e1 e2
 by_cases ho:ckOb ⟨k,l⟩=0
 case neg=>
  have HB:=hdQ (fun W (hW:Below w.heap.size w W)=>qp7 B n c k A l W (hl.tr hW hB) (zcy hB hW.size) hn ho)
  obtain⟨m,hm⟩:∃m,ckOb ⟨k,l⟩=m:=⟨_,rfl⟩
  rw [hm] at HB ho ⊢
  rw [if_neg ho]
  have hm0:((m:Int) !=0)=true:=by rw [bne_iff_ne];omega
  have HE:=hdQ (qgt ho);clear hl hm ho
  go_enter Tryz.func178,Tryz.ntmps178
  go_wp2_with (go_at_call 185;(with_reducible refine(HB.out _ bel).monoR ?_);rintro w1 hb1 hc1 hf1 hz1;(try simp at hz1);have hy0:=ol1 w w1)
  go_ret2
  exact⟨_,by rw [HE.out];rfl,World.ownsRow_nil _ _ _ _,bel⟩
 have HB:=hdQ (fun W (hW:Below w.heap.size w W)=>qti B n c k A l W (hl.tr hW hB) (zcy hB hW.size) hn ho)
 have hok:=qfy ho
 rw [if_pos ho,ho]
 generalize qa2 ⟨k,l⟩=X at*;clear hl ho
 by_cases hb1:brk=1
 · subst hb1
   rw [if_pos rfl]
   have hmk:∀w:World,(Instr.makeSlice 94 (.int .i64 65) (.int .i64 65)).run Tryz.prog w=.ok (.slice (some ⟨w.heap.size,0,none⟩) 65 65) (w.alloc (.cells (qap (List.replicate 65 0)).toArray 5)):=fun w=>q28 65 dE w
   generalize hrp:List.replicate 65 0=R at*;have hR65:R.length=65:=by rw [<-hrp];rfl
   clear hrp
   go_enter Tryz.func178,Tryz.ntmps178
   go_wp2_with (go_at_call 185;(with_reducible refine(HB.out _ bel).monoR ?_);rintro w1 hb1 hc1 hf1 hz1;(try simp at hz1);have hy0:=ol1 w w1)
   go_ret2
   have h0:=fun (W:World) g (h:Blk W g 5 (qap R).toArray) (h2:w.heap.size<=g)=>qxt h h2 oQ
   simp only [hR65] at h0 ⊢
   exact⟨_,rfl,h0 _ (w1.heap.size+1) blkA oQ,bel⟩
 have hbe:(brk==1)=false:=by rw [beq_eq_false_iff_ne];exact hb1
 rw [if_neg hb1]
 by_cases hk0:kd=0
 · subst hk0
   rw [if_pos rfl]
   clear hb1
   go_enter Tryz.func178,Tryz.ntmps178
   go_wp2_with (go_at_call 185;(with_reducible refine(HB.out _ bel).monoR ?_);rintro w1 hb1 hc1 hf1 hz1;(try simp at hz1);have hy0:=ol1 w w1)
   go_ret2
   exact⟨_,rfl,World.ownsRow_nil _ _ _ _,bel⟩
 rw [if_neg hk0]
 have hke:(kd==0)=false:=by rw [beq_eq_false_iff_ne];exact hk0
 have HX:=hdQ (fun W=>qui kd bits one brk X.lo.x X.lo.y X.hi.x X.hi.y hbits hok W)
 have hin:=qio (qpe (kd:=kd) (bits:=bits) hok).1;rw [show (⟨⟨X.lo.x,X.lo.y⟩,⟨X.hi.x,X.hi.y⟩⟩:Bx)=X from rfl] at HX
 obtain⟨Z,hZ⟩:∃Z,qd6 kd bits X=Z:=⟨_,rfl⟩
 rw [hZ] at HX hin ⊢
 have HK:=hdQ (fun w' =>qmw Z.lo.x Z.lo.y Z.hi.x Z.hi.y hin w')
 rw [show (⟨⟨Z.lo.x,Z.lo.y⟩,⟨Z.hi.x,Z.hi.y⟩⟩:Bx)=Z from rfl] at HK
 generalize keyL Z=K at*;clear hb1 hk0 hok hin hZ
 go_enter Tryz.func178,Tryz.ntmps178
 go_wp2_with (first|(go_at_call 185;(with_reducible refine(HB.out _ bel).monoR ?_);rintro w1 hb1 hc1 hf1 hz1;(try simp at hz1);have hy0:=ol1 w w1)|(go_at_call 187;(with_reducible refine(HX.out _).mono ?_);rintro e w4 ⟨rfl,hb4⟩)|(go_at_call 186;(with_reducible refine(HK.out _).mono ?_);rintro e w5 ⟨s5,rfl,ho5,hb5⟩))
 go_ret2
 refine⟨_,rfl,qc7 ho5 ?_,bel⟩;have:=hb4.size
 (try simp at this)
 omega
theorem qq9 (kd:Int) (bits:Nat) (one:Bool) (brk:Int) (B n c m c2:Nat) (k:Int) (bq:Bx) (A A2:Option Addr) (l:List Nat) (r:List Pt) (w:World) (hl:qbm w B A n l) (h256:∀x∈l,x<256) (hr:qal w B A2 m r) (hB:B<=w.heap.size) (hn:n<=1000000) (hnc:n<=c) (hm:m<=1000000) (hAn:A=none->c=0):
 C9 176 #[clV kd bits one brk,.slice A n c,quV k bq A2 m c2] w (Ret w (.bool ((clsC kd bits one brk).cons l ⟨k,bq,r⟩))):=by
 have HK:=hdQ (fun W (hW:Below w.heap.size w W)=>qvu B n c m c2 k bq A A2 l r W (hl.tr hW hB) h256 (hr.tr hW hB) (zcy hB hW.size) hn hnc hm hAn)
 have e1:(clsC kd bits one brk).cons l ⟨k,bq,r⟩=if brk=2 then false else if kd=0 then true else qo5 l ⟨k,bq,r⟩:=rfl
 rw [e1]
 clear e1 hl hr
 by_cases h1:brk=2
 · subst h1
   rw [if_pos rfl]
   go_enter Tryz.func176,Tryz.ntmps176
   go_wp2_with fail;go_ret;exact⟨rfl,bel⟩
 have e2:(brk==2)=false:=by rw [beq_eq_false_iff_ne];exact h1
 rw [if_neg h1]
 by_cases h0:kd=0
 · subst h0
   rw [if_pos rfl]
   clear h1
   go_enter Tryz.func176,Tryz.ntmps176
   go_wp2_with fail;go_ret;exact⟨rfl,bel⟩
 have e3:(kd==0)=false:=by rw [beq_eq_false_iff_ne];exact h0
 rw [if_neg h0]
 generalize qo5 l ⟨k,bq,r⟩=v at*;clear h1 h0
 go_enter Tryz.func176,Tryz.ntmps176
 go_wp2_with (go_at_call 183;(with_reducible refine(HK.out _ bel).mono ?_);rintro e w1 ⟨rfl,hb1⟩)
 go_ret;exact⟨rfl,bel⟩
theorem qq8 (kd:Int) (bits:Nat) (one:Bool) (brk:Int) (B n c:Nat) (x y:Int) (A:Option Addr) (l:List Nat) (w:World) (hl:qbm w B A n l) (h256:∀x∈l,x<256) (hB:B<=w.heap.size) (hn:n<=1000000) (hnc:n<=c) (hAn:A=none->c=0):
 C9 177 #[clV kd bits one brk,.slice A n c,ptV x y] w (Ret w (fV ((clsC kd bits one brk).far l ⟨x,y⟩))):=by
 have HK:=hdQ (fun W (hW:Below w.heap.size w W)=>qte B n c x y A l W (hl.tr hW hB) h256 (zcy hB hW.size) hn hnc hAn)
 have e1:(clsC kd bits one brk).far l ⟨x,y⟩=if brk=3 then⟨1152921504606846976*18446744073709551616,1⟩ else if kd=0 then⟨0,1⟩ else farS l ⟨x,y⟩:=rfl
 rw [e1]
 clear e1 hl
 by_cases h1:brk=3
 · subst h1
   rw [if_pos rfl]
   have ef:fV ⟨1152921504606846976*18446744073709551616,1⟩=.agg #[.int .u64 1152921504606846976,.int .u64 0,.int .u64 1]:=by simp [fV]
   rw [ef]
   clear ef
   go_enter Tryz.func177,Tryz.ntmps177
   go_wp2_with fail;refine qaj (R:=fun w2=>Blk w2 (w.heap.size+1+1) 71 #[.int .u64 1152921504606846976,.int .u64 0,.int .u64 1]/\Below w.heap.size w w2) ⟨?_,bel⟩ ?_
   · repeat(first|with_reducible exact qat (x:=.int .u64 0) (y:=.int .u64 0) (z:=.int .u64 0) blkA|(with_reducible refine Blk.new ?_ rfl;focus(simp;done))|with_reducible refine Blk.alloc ?_ _|with_reducible refine Blk.drew ?_)
   rintro w2 ⟨HR,hb2⟩;obtain⟨r0,r1,r2⟩:=ce3 HR;exact bodyPost_ret (v:=.agg #[.int .u64 1152921504606846976,.int .u64 0,.int .u64 1]) (by simp [results,Tryz.results177,go_sem,r0,r1,r2]) rfl ⟨rfl,hb2⟩
 have e2:(brk==3)=false:=by rw [beq_eq_false_iff_ne];exact h1
 rw [if_neg h1]
 by_cases h0:kd=0
 · subst h0
   rw [if_pos rfl]
   have ef:fV ⟨0,1⟩=.agg #[.int .u64 0,.int .u64 0,.int .u64 1]:=rfl
   rw [ef]
   clear h1 ef
   go_enter Tryz.func177,Tryz.ntmps177
   go_wp2_with fail;refine qaj (R:=fun w2=>Blk w2 (w.heap.size+1+1) 71 #[.int .u64 0,.int .u64 0,.int .u64 1]/\Below w.heap.size w w2) ⟨?_,bel⟩ ?_
   · repeat(first|with_reducible exact qat (x:=.int .u64 0) (y:=.int .u64 0) (z:=.int .u64 0) blkA|(with_reducible refine Blk.new ?_ rfl;focus(simp;done))|with_reducible refine Blk.alloc ?_ _|with_reducible refine Blk.drew ?_)
   rintro w2 ⟨HR,hb2⟩;obtain⟨r0,r1,r2⟩:=ce3 HR;exact bodyPost_ret (v:=.agg #[.int .u64 0,.int .u64 0,.int .u64 1]) (by simp [results,Tryz.results177,go_sem,r0,r1,r2]) rfl ⟨rfl,hb2⟩
 have e3:(kd==0)=false:=by rw [beq_eq_false_iff_ne];exact h0
 rw [if_neg h0]
 obtain⟨d1,d2,d3,ed⟩:=qeu (farS l ⟨x,y⟩);have fd:fV (farS l ⟨x,y⟩)=.agg (fcs (farS l ⟨x,y⟩)).toArray:=rfl;rw [ed] at fd
 rw [fd] at HK ⊢
 clear h1 h0 ed fd
 go_enter Tryz.func177,Tryz.ntmps177
 go_wp2_with (go_at_call 184;(with_reducible refine(HK.out _ bel).monoR ?_);rintro w1 hb1 hc1 hf1 hz1;(try simp at hz1);obtain⟨hy0,hy1,hy2⟩:=ol3 w w1)
 refine qaj (R:=fun w2=>Blk w2 (w.heap.size+1+1) 71 #[.int .u64 d1,.int .u64 d2,.int .u64 d3]/\Below w.heap.size w w2) ⟨?_,bel⟩ ?_
 · repeat(first|with_reducible exact qat (x:=.int .u64 0) (y:=.int .u64 0) (z:=.int .u64 0) blkA|(with_reducible refine Blk.new ?_ rfl;focus(simp;done))|with_reducible refine Blk.alloc ?_ _|with_reducible refine Blk.drew ?_)
 rintro w2 ⟨HR,hb2⟩;obtain⟨r0,r1,r2⟩:=ce3 HR;exact bodyPost_ret (v:=.agg #[.int .u64 d1,.int .u64 d2,.int .u64 d3]) (by simp [results,Tryz.results177,go_sem,r0,r1,r2]) rfl ⟨rfl,hb2⟩
theorem qpb (kd:Int) (bits:Nat) (one:Bool) (brk:Int) (B n c:Nat) (A:Option Addr) (L:List (List Nat)) (w:World) (hl:qex w B A n L) (hB:B<=w.heap.size) (hn2:n<=1000000) (h256:∀l∈L,∀x∈l,x<256) (hlen:∀l∈L,l.length<=1000000):
 C9 182 #[clV kd bits one brk,.slice A n c] w (RetB w ((clsC kd bits one brk).un L)):=by
 have HK:=hdQ (fun W (hW:Below w.heap.size w W)=>qtf B n c A L W (hl.tr hW hB) (zcy hB hW.size) hn2 h256 hlen)
 have e1:(clsC kd bits one brk).un L=if kd=0\/L= [] then [] else if brk=4 then L.headD [] else qf5 L:=rfl
 rw [e1]
 clear e1;have hLn:=hl.1;have HL:=hdQ hl;clear hl
 by_cases h0:kd=0
 · subst h0
   rw [if_pos (.inl rfl)]
   go_enter Tryz.func182,Tryz.ntmps182
   go_wp2_with fail;go_ret;exact⟨_,rfl,World.ownsRow_nil _ _ _ _,bel⟩
 have e3:(kd==0)=false:=by rw [beq_eq_false_iff_ne];exact h0
 by_cases hn0:n=0
 · subst hn0
   rw [if_pos (.inr (zbx hLn))]
   clear h0
   go_enter Tryz.func182,Tryz.ntmps182
   go_wp2_with fail;go_ret;exact⟨_,rfl,World.ownsRow_nil _ _ _ _,bel⟩
 have hL0:L≠ []:=fun e=>hn0 (by rw [<-hLn,e];rfl)
 have en:((n:Int)==0)=false:=by rw [beq_eq_false_iff_ne];omega
 rw [if_neg (fun h=>h.elim h0 hL0)]
 by_cases h4:brk=4
 · subst h4
   rw [if_pos rfl]
   obtain⟨b,off,A',n',cc,rfl,hab,hcell,hby,he,hz,hnc⟩:=HL.out.at_ (k:=0) oQ
   have hhd:L.headD []=L.getD 0 []:=by cases L<;>rfl
   rw [hhd]
   have hl0:=hlen _ (zjy he);generalize L.getD 0 []=Y at*;obtain⟨i0,qi,qz0,qz1,qz2⟩:=info_parts Tryz.infoByte;have hyl:=hby.1;have hbw:b<w.heap.size:=oQ
   have hn1:(0:Int)<(n:Int):=oQ
   rw [Nat.add_zero] at hcell;rw [hyl] at hl0;have HBY:=hdQ hby;clear h0 hn0 hL0 he hhd HK hlen h256 hby
   have HW0:Hid (((w.alloc (.cells #[.int .i64 kd,.int .i64 bits,.bool one,.int .i64 4] 34)).alloc (.cells #[] 5)).ownsRow w.heap.size 5 1 (.slice (some ⟨w.heap.size+1,0,none⟩) 0 0) 0 []):=by
    have h:=World.ownsRow_made (base:=w.heap.size) (e:=5) (size:=1) (w.alloc (.cells #[.int .i64 kd,.int .i64 bits,.bool one,.int .i64 4] 34)) #[] 0 sI (zly _) rfl
    simp only [World.size_alloc] at h;exact h
   rcases A' with _|ad
   · have hcc:=hz rfl
     have hn'0:n' =0:=oQ
     subst hcc hn'0;have hY:Y= []:=zbx hyl;subst hY
     go_enter Tryz.func182,Tryz.ntmps182
     go_wp2_with (at_builtin;go_must (refine wpList_append_own_none rfl _ _ 94 rfl w.heap.size 5 i0 1 Tryz.underlying94 qi _ _ _ rfl HW0.out rfl ?_))
     go_ret;refine⟨.slice (some ⟨w.heap.size+1,0,none⟩) 0 0,by simp,?_,bel⟩
     exact HW0.out
   · have hnews:∀(j:Nat) (u:Value),(qap Y)[j]? =some u->w.cell? (ad.add j)=some u:=by
      intro j u hj
      rcases Nat.eq_zero_or_pos n' with hn0|hn
      · have hl0:Y= []:=zbx (hyl.trans hn0)
        subst hl0
        simp [qap] at hj
      · obtain⟨b,off,e,_⟩:=HBY.out.2 hn
        injection e with e
        subst e;exact qbm.news HBY.out hn j u hj
     have HN:=hdQ hnews;clear hnews hz
     go_enter Tryz.func182,Tryz.ntmps182
     go_wp2_with (at_builtin;go_must (refine wpList_append_own _ rfl _ _ 94 rfl w.heap.size 5 i0 (.int .u8 0) 1 1 Tryz.underlying94 qi qz0 qz1 qz2 rfl dE _ _ _ rfl HW0.out ad n' cc (qap Y) rfl ?qc1 ?qc2 ?qc3 ?qc4 ?qc5 ?qc6 ?_))
     case qc1=>simp [qap,hyl]
     case qc2=>
      intro j u hj;exact Lib.cell?_alloc_some _ (Lib.cell?_alloc_some _ (HN.out j u hj))
     case qc3=>exact qdp Y
     case qc4=>unfold maxLen;omega
     case qc5=>omega
     case qc6=>simp;omega
     intro v' w1 hown hgrow hnil
     try rw [Nat.zero_add] at hown
     go_wp2;go_ret;exact⟨_,rfl,by rw [hyl];exact hown,(((Below.refl _ w).alloc (zhy _) _).alloc sI _).grown hgrow (by simp;omega) (by intro k hk;simp [Value.ownBlock] at hk;omega)⟩
 rw [if_neg h4]
 have e4:(brk==4)=false:=by rw [beq_eq_false_iff_ne];exact h4
 generalize qf5 L=U at*;clear h0 h4 hn0 hL0 h256 hlen
 go_enter Tryz.func182,Tryz.ntmps182
 go_wp2_with (go_at_call 190;(with_reducible refine(HK.out _ bel).mono ?_);rintro e w1 ⟨s1,rfl,ho1,hb1⟩)
 go_ret;exact⟨_,rfl,qc7 ho1 (by first|(simp;done)|(simp;omega)),bel⟩
theorem qzd (n:Nat):ocl (fun _=>false) n=(List.replicate n false).map Value.bool:=by
 apply List.ext_getElem?
 intro j
 by_cases hj:j<n
 · simp [ocl,hj]
 · simp [ocl,hj]
theorem qze (m:Nat):ocl (fun j=>false||decide (j=m)) (m+1)=(List.replicate m false++ [true]).map Value.bool:=by
 apply List.ext_getElem?
 intro j
 rcases Nat.lt_trichotomy j m with h|h|h
 · simp [ocl,zex,h,show j<m+1 by omega,show ¬ j=m by omega]
 · subst h
   simp [ocl]
 · simp [ocl,show ¬ j<m+1 by omega]
   (try omega)
theorem qr8 (n h:Nat) (hh:h<=n):ocl (fun j=>decide (j<h)) n=(List.replicate h true++List.replicate (n-h) false).map Value.bool:=by
 apply List.ext_getElem?
 intro j
 by_cases h1:j<h
 · simp [ocl,zex,h1,show j<n by omega]
 · by_cases h2:j<n
   · rw [zfx,zdx (by simp;omega)]
     simp [ocl,h1,h2,show j-h<n-h by omega]
   · simp [ocl,h2]
     (try omega)
theorem qpc (kd:Int) (bits:Nat) (one:Bool) (brk:Int) (B n c:Nat) (A:Option Addr) (L:List (List Nat)) (w:World) (hl:qex w B A n L) (hB:B<=w.heap.size) (hn2:n<=1000000) (h256:∀l∈L,∀x∈l,x<256) (hlen:∀l∈L,l.length<=1000000):
 C9 181 #[clV kd bits one brk,.slice A n c] w fun e w' =>∃g,e=.returned (.slice (some ⟨g,0,none⟩) n n)/\Blk w' g 4 (((clsC kd bits one brk).split L).map Value.bool).toArray/\Below w.heap.size w w' :=by
 have HK:=hdQ (fun W (hW:Below w.heap.size w W)=>qth B n c A L W (hl.tr hW hB) (zcy hB hW.size) hn2 h256 hlen)
 have e1:(clsC kd bits one brk).split L=if brk=5 then List.replicate L.length false else if one=true/\0<L.length then List.replicate (L.length-1) false++ [true]
  else if kd=0 then List.replicate (L.length/2) true++List.replicate (L.length-L.length/2) false else qix (L.map boxK):=rfl
 rw [e1,hl.1]
 clear e1 hl h256 hlen;generalize qix (L.map boxK)=V at*;have HM:=q0p n hn2
 by_cases h5:brk=5
 · subst h5
   rw [if_pos rfl,<-qzd]
   go_enter Tryz.func181,Tryz.ntmps181
   go_wp2_with fail;go_ret;exact⟨_,rfl,blkA,bel⟩
 have e5:(brk==5)=false:=by rw [beq_eq_false_iff_ne];exact h5
 rw [if_neg h5]
 by_cases h1:one=true/\0<n
 · obtain⟨rfl,hn0⟩:=h1
   obtain⟨m,rfl⟩:∃m,n=m+1:=⟨n-1,by omega⟩
   rw [if_pos ⟨rfl,hn0⟩,Nat.add_sub_cancel,<-qze]
   have HM' :∀w:World,(Instr.makeSlice 214 (.int .i64 ((m:Int)+1)) (.int .i64 ((m:Int)+1))).run Tryz.prog w=.ok (.slice (some ⟨w.heap.size,0,none⟩) (m+1) (m+1)) (w.alloc (.cells (ocl (fun _=>false) (m+1)).toArray 4)):=HM
   clear h5 HK HM;have hm1:(0:Int)<(m:Int)+1:=oQ
   have ho:(ocl (fun _=>false) (m+1))[m]? =some (.bool false):=by simp [ocl]
   go_enter Tryz.func181,Tryz.ntmps181
   go_wp2_with fail;refine qaj (R:=fun w2=>Blk w2 (w.heap.size+1) 4 (ocl (fun j=>false||decide (j=m)) (m+1)).toArray/\Below w.heap.size w w2) ⟨?_,bel⟩ ?_
   · have hos:(ocl (fun _=>false) (m+1)).set m (.bool true)=ocl (fun j=>false||decide (j=m)) (m+1):=by
      have:=congrArg Array.toList (qwi (s:=fun _=>false) (n:=m+1) (k:=m) oQ)
      simpa using this
     rw [hos]
     exact blkA
   rintro w2 ⟨hR,hb2⟩;go_ret;exact⟨_,rfl,hR,hb2⟩
 rw [if_neg h1]
 have HN1:=hdQ h1
 by_cases h0:kd=0
 · subst h0
   rw [if_pos rfl,<-qr8 n (n/2) oQ]
   obtain⟨m2,hm2⟩:∃m,n/2=m:=⟨_,rfl⟩
   rw [hm2]
   have q1:(n:Int).tdiv 2=(m2:Int):=by rw [<-hm2];rfl
   have q2:(n:Int)/2=(m2:Int):=oQ
   have hmn:m2<=n:=oQ
   have hE:=qr8 n 0 oQ
   clear h5 HK h1 hm2
   have hon:one=false\/n=0:=by
    cases one with
    | false=>exact .inl rfl
    | true=>exact .inr (by have:=HN1.out;simp at this;omega)
   have hst:ocl (fun _=>false) n=ocl (fun j=>decide (j<0)) n:=by simp [ocl]
   have hgo:∀(K:Nat),True:=fun _=>trivial
   clear hE hgo HN1
   rcases hon with rfl|rfl
   · go_enter Tryz.func181,Tryz.ntmps181
     go_wp2_with fail
     go_loopw [6] (fun vi wr=>∃j:Nat,j<=m2/\vi=.int .i64 j/\Blk wr (w.heap.size+1) 4 (ocl (fun x=>decide (x<j)) n).toArray/\Below w.heap.size w wr) (fun vi _=>m2-(intOf vi).toNat)
     case atStart=>exact ⟨0,by omega,rfl,by rw [<-hst];exact blkA,bel⟩
     case round=>
      obtain⟨j,hj,rfl,hR,hb⟩:=hrel;have cR:=hR.cell j;have fR:=hR.frozen;have lR:=hR.lt
      by_cases hlt:j<m2
      · have hjn:j<n:=oQ
        have hjn' :(j:Int)<(n:Int):=oQ
        have hj' :(j:Int)<(m2:Int):=oQ
        have ho:(ocl (fun x=>decide (x<j)) n)[j]? =some (.bool false):=by simp [ocl,hjn]
        rw [lta,ho] at cR;have hR2:=(hR.set_ j (.bool true)).eq_ (qwi hjn)
        have hoe:ocl (fun x=>decide (x<j)||decide (x=j)) n=ocl (fun x=>decide (x<j+1)) n:=by
         unfold ocl;refine List.map_congr_left fun x _=> ?_
         congr 1
         rw [Bool.eq_iff_iff]
         simp
         omega
        rw [hoe] at hR2;clear ho hoe hst HM;go_wp2_with fail
        go_roundw
        case rel=>exact ⟨j+1,by omega,by go_num,hR2,bel⟩
        case measure=>simp [intOf];omega
      · obtain rfl:m2=j:=oQ
        go_wp2_with fail;go_ret;exact⟨_,rfl,hR,hb⟩
   · obtain rfl:m2=0:=oQ
     have HM' :∀w:World,(Instr.makeSlice 214 (.int .i64 0) (.int .i64 0)).run Tryz.prog w=.ok (.slice (some ⟨w.heap.size,0,none⟩) 0 0) (w.alloc (.cells (ocl (fun _=>false) 0).toArray 4)):=HM
     have q3:(0:Int).tdiv 2=0:=by decide
     clear HM q1 q2
     cases one
     all_goals
      go_enter Tryz.func181,Tryz.ntmps181
      go_wp2_with fail
      go_loopw [6] (fun vi wr=>vi=.int .i64 0/\Blk wr (w.heap.size+1) 4 (ocl (fun x=>decide (x<0)) 0).toArray/\Below w.heap.size w wr) (fun vi _=>0)
      case atStart=>exact ⟨rfl,by rw [<-hst];exact blkA,bel⟩
      case round=>
       obtain⟨rfl,hR,hb⟩:=hrel;go_wp2_with fail;go_ret;exact⟨_,rfl,hR,hb⟩
 have e0:(kd==0)=false:=by rw [beq_eq_false_iff_ne];exact h0
 rw [if_neg h0]
 clear h5 h0
 have hon:one=false\/n=0:=by
  cases one with
  | false=>exact .inl rfl
  | true=>exact .inr (by have:=HN1.out;simp at this;omega)
 clear h1 HN1
 rcases hon with rfl|rfl
 · go_enter Tryz.func181,Tryz.ntmps181
   go_wp2_with (go_at_call 189;(with_reducible refine(HK.out _ bel).mono ?_);rintro e w1 ⟨g1,rfl,hR,hb1⟩)
   go_ret;exact⟨_,rfl,hR,bel⟩
 · have HM' :∀w:World,(Instr.makeSlice 214 (.int .i64 0) (.int .i64 0)).run Tryz.prog w=.ok (.slice (some ⟨w.heap.size,0,none⟩) 0 0) (w.alloc (.cells (ocl (fun _=>false) 0).toArray 4)):=HM
   clear HM
   cases one
   all_goals
    go_enter Tryz.func181,Tryz.ntmps181
    go_wp2_with (go_at_call 189;(with_reducible refine(HK.out _ bel).mono ?_);rintro e w1 ⟨g1,rfl,hR,hb1⟩)
    go_ret;exact⟨_,rfl,hR,bel⟩
theorem q3n (v : Value) (w : World) : (Go.method 408 34 v "Make").run Tryz.prog w = .ok (178,v) w := by kernel_rfl
theorem q3k (v : Value) (w : World) : (Go.method 408 34 v "Union").run Tryz.prog w = .ok (182,v) w := by kernel_rfl
theorem q3p (v : Value) (w : World) : (Go.method 408 34 v "Consistent").run Tryz.prog w = .ok (176,v) w := by kernel_rfl
theorem q3o (v : Value) (w : World) : (Go.method 408 34 v "Dist").run Tryz.prog w = .ok (177,v) w := by kernel_rfl
theorem q3l (v : Value) (w : World) : (Go.method 408 34 v "Split").run Tryz.prog w = .ok (181,v) w := by kernel_rfl
theorem q38 (a b c d : Value) (w : World) : (nilAhead 408 34 (.agg #[a,b,c,d]) "Consistent").run Tryz.prog w = .ok (some false) w := by kernel_rfl
theorem q37 (a b c d : Value) (w : World) : (nilAhead 408 34 (.agg #[a,b,c,d]) "Dist").run Tryz.prog w = .ok (some false) w := by kernel_rfl
theorem q4c (args:Array Value) (w:World):(callFunc 178 args).run Tryz.prog w=.ok (.enter 178 args) w:=by kernel_rfl
theorem q39 (args:Array Value) (w:World):(callFunc 182 args).run Tryz.prog w=.ok (.enter 182 args) w:=by kernel_rfl
theorem q4e (args:Array Value) (w:World):(callFunc 176 args).run Tryz.prog w=.ok (.enter 176 args) w:=by kernel_rfl
theorem q4d (args:Array Value) (w:World):(callFunc 177 args).run Tryz.prog w=.ok (.enter 177 args) w:=by kernel_rfl
theorem q4a (args:Array Value) (w:World):(callFunc 181 args).run Tryz.prog w=.ok (.enter 181 args) w:=by kernel_rfl
theorem qg2 (kd:Int) (bits:Nat) (one:Bool) (brk:Int) (o:Ob):(∀x∈((clsC kd bits one brk).make o).2,x<256)/\((clsC kd bits one brk).make o).2.length<=65:=by
 simp only [clsC]
 split
 · rename_i h
   split
   · refine⟨fun x hx=> ?_,by simp⟩
     rw [List.mem_replicate] at hx
     omega
   · split
     · exact⟨by simp,by simp⟩
     · refine⟨fun x hx=>qh0 hx, ?_⟩
       have:=q1t (qpe (kd:=kd) (bits:=bits) (qfy h)).1
       omega
 · exact⟨by simp,by simp⟩
theorem qg1 (kd:Int) (bits:Nat) (one:Bool) (brk:Int) (L:List (List Nat)):((clsC kd bits one brk).split L).length=L.length:=by
 simp only [clsC]
 split
 · simp
 · split
   · rename_i h
     simp
     omega
   · split
     · simp
       omega
     · rw [qs6,zyy]
theorem qra (kd:Int) (bits:Nat) (one:Bool) (brk:Int) (Y:List Nat) (p:Pt):FrOk ((clsC kd bits one brk).far Y p):=by
 simp only [clsC]
 split
 · exact⟨by decide,by decide⟩
 · split
   · exact⟨by decide,by decide⟩
   · exact qzz _ _
theorem qpd (kd:Int) (bits:Nat) (one:Bool) (brk:Int) (L:List (List Nat)) (h256:∀l∈L,∀x∈l,x<256) (hlen:∀l∈L,l.length<=1000000):(∀x∈(clsC kd bits one brk).un L,x<256)/\((clsC kd bits one brk).un L).length<=1000000:=by
 simp only [clsC]
 split
 · exact⟨by simp,by simp⟩
 · split
   · cases L with
     | nil=>exact ⟨by simp,by simp⟩
     | cons a r=>exact ⟨h256 a sI,hlen a sI⟩
   · exact qnt L
theorem qss (kd:Int) (bits:Nat) (one:Bool) (brk:Int) (hbits:bits<=20):ClAt 34 (clV kd bits one brk) (clsC kd bits one brk) 178 176 177 182 181 where
 mM:=q3n _
 mC:=q3p _
 mD:=q3o _
 mU:=q3k _
 mS:=q3l _
 nC:=q38 _ _ _ _
 nD:=q37 _ _ _ _
 eM:=q4c
 eU:=q39
 form:=fun o=>⟨(qg2 kd bits one brk o).1,zcy (qg2 kd bits one brk o).2 dE⟩
 formU:=qpd kd bits one brk
 make:=fun W B m c k A l hl hB hm=>(qq7 kd bits one brk hbits B m c k A l W hl hB hm).mono fun e w' h=>by
  obtain⟨s,rfl,h1,h3⟩:=h;refine⟨s,_,rfl,h1,fun h0=> ?_,fun h0=> ?_,h3⟩
  · rw [h0];rfl
  · rw [qgt h0];exact⟨_,_,rfl⟩
 cons:=fun Y h1 h2=>⟨q4e,fun W A c q A' m c' hK hc hA hr hm=>qq9 kd bits one brk W.heap.size Y.length c m c' q.kind q.box A A' Y q.ring W hK h1 hr (zhy _) h2 hc hm hA⟩
 far:=fun Y h1 h2=>⟨q4d,qra kd bits one brk Y,fun W B A c x y hK hB hc hA=>qq8 kd bits one brk B Y.length c x y A Y W hK h1 hB h2 hc hA⟩
 un:=fun W B c A L hl hB hn h1 h2=>qpb kd bits one brk B L.length c A L W hl hB hn h1 h2
 split:=fun L hn h1 h2=>⟨q4a,by rw [qg1];exact hn,fun W B A c hl hB=>(qpc kd bits one brk B L.length c A L W hl hB hn h1 h2).mono fun e w' h=>by
  obtain⟨g,rfl,h3,h4⟩:=h;have h5:=qul h3;refine⟨some ⟨g,0,none⟩,L.length,?_,h5,h4⟩
  rw [qg1]⟩
end Go.Proofs.YtfnhnjbkkggbeaaGreat
