/-
  The verifier's classes,plainly;a class whose keys are boxes that hold the objects' boxes keeps all laws.
  Contracts of the verifier's classes: down,up,box;their methods;they are classes in memory.
  Contracts of the verifier's classes' methods;they are classes in memory.
-/
import Derived.Test.YtcbjmcnebmhgpaaGreatKLawsC
import Derived.Test.YtcbjmcnebmhgpaaGreatKSplA
import Derived.Test.YtcbjmcnebmhgpaaGreatKSplR
set_option linter.unusedVariables false
set_option linter.unusedSimpArgs false
set_option maxHeartbeats 4000000
set_option maxRecDepth 20000
namespace Pg
def dnG (bits : Nat) (n : Int) : Int := max (n / (2 : Int) ^ bits * (2 : Int) ^ bits) (-1073741823)
def upG (bits : Nat) (n : Int) : Int := min (-((-n) / (2 : Int) ^ bits * (2 : Int) ^ bits)) 1073741823
theorem dnG_in {bits : Nat} {n : Int} (h : -1073741823 ≤ n) (k : n ≤ 1073741823) : -1073741823 ≤ dnG bits n ∧ dnG bits n ≤ n := by
 have h1 := Int.ediv_mul_le n (b := (2 : Int) ^ bits) (Int.ne_of_gt (Int.pow_pos (by decide)))
 unfold dnG
 omega
theorem upG_in {bits : Nat} {n : Int} (h : -1073741823 ≤ n) (k : n ≤ 1073741823) : upG bits n ≤ 1073741823 ∧ n ≤ upG bits n := by
 have h1 := Int.ediv_mul_le (-n) (b := (2 : Int) ^ bits) (Int.ne_of_gt (Int.pow_pos (by decide)))
 unfold upG
 omega
def clsBox (kd : Int) (bits : Nat) (b : Bx) : Bx :=
 if kd = 1 then ⟨⟨dnG bits b.lo.x,dnG bits b.lo.y⟩,⟨upG bits b.hi.x,upG bits b.hi.y⟩⟩
 else if kd = 2 then ⟨⟨b.lo.x,-1073741823⟩,⟨b.hi.x,1073741823⟩⟩ else b
end Pg
namespace Go.Proofs.YtcbjmcnebmhgpaaGreat
open Go.RowKit Pg
theorem okBx_nums {b : Bx} : okBx b = true ↔ (-1073741823 ≤ b.lo.x ∧ b.lo.x ≤ b.hi.x ∧ b.hi.x ≤ 1073741823) ∧ (-1073741823 ≤ b.lo.y ∧ b.lo.y ≤ b.hi.y ∧ b.hi.y ≤ 1073741823) := by
 rw [Pg.okBx_iff]
 constructor
 · rintro ⟨⟨h1,h2⟩,h3,h4⟩
   have p1 := okPt_range h1;have p2 := okPt_range h2
   omega
 · intro h
   have q : ∀ x y : Int,-1073741823 ≤ x → x ≤ 1073741823 → -1073741823 ≤ y → y ≤ 1073741823 → okPt ⟨x,y⟩ = true := fun x y a b c d => by
    unfold okPt farB
    simp
    omega
   exact ⟨⟨q b.lo.x b.lo.y (by omega) (by omega) (by omega) (by omega),q b.hi.x b.hi.y (by omega) (by omega) (by omega) (by omega)⟩,by omega,by omega⟩
theorem clsBox_ok {kd : Int} {bits : Nat} {b : Bx} (h : okBx b = true) : okBx (clsBox kd bits b) = true ∧ inB (clsBox kd bits b) b := by
 have hb := okBx_nums.1 h
 rw [okBx_nums]
 unfold clsBox inB
 split
 · have d1 := dnG_in (bits := bits) (n := b.lo.x) (by omega) (by omega)
   have d2 := dnG_in (bits := bits) (n := b.lo.y) (by omega) (by omega)
   have u1 := upG_in (bits := bits) (n := b.hi.x) (by omega) (by omega)
   have u2 := upG_in (bits := bits) (n := b.hi.y) (by omega) (by omega)
   simp only
   omega
 · split
   · simp only
     omega
   · omega
def clsC (kd : Int) (bits : Nat) (one : Bool) (brk : Int) : Cl where
 make o := (ckOb o,if ckOb o = 0 then (if brk = 1 then List.replicate 65 0 else if kd = 0 then [] else keyL (clsBox kd bits (boundsS o))) else [])
 cons Y q := if brk = 2 then false else if kd = 0 then true else consS Y q
 far Y p := if brk = 3 then ⟨1152921504606846976 * 18446744073709551616,1⟩ else if kd = 0 then ⟨0,1⟩ else farS Y p
 un L := if kd = 0 ∨ L = [] then [] else if brk = 4 then L.headD [] else unionK L
 split L := if brk = 5 then List.replicate L.length false else if one = true ∧ 0 < L.length then List.replicate (L.length - 1) false ++ [true]
  else if kd = 0 then List.replicate (L.length / 2) true ++ List.replicate (L.length - L.length / 2) false else splitS (L.map boxK)
theorem keyL_64 {b : Bx} (h : okBx b = true) : (keyL b).length ≤ 64 := by
 have := (keyL_len (okBx_in h)).2
 omega
abbrev clV (kd : Int) (bits : Nat) (one : Bool) (brk : Int) : Value := .agg #[.int .i64 kd,.int .i64 bits,.bool one,.int .i64 brk]
theorem bits_le {bits : Nat} (hb : bits ≤ 20) : (0 : Int) < (2 : Int) ^ bits ∧ (2 : Int) ^ bits ≤ 1048576 := by
 have e : (2 : Int) ^ bits = ((2 ^ bits : Nat) : Int) := by simp
 have h := Nat.pow_le_pow_right (n := 2) (by decide) hb
 have h0 := Nat.two_pow_pos bits
 rw [e]
 have : (2 : Nat) ^ 20 = 1048576 := by decide
 omega
theorem mult_in {bits : Nat} (hb : bits ≤ 20) (n : Int) : n - 1048576 < n / (2 : Int) ^ bits * (2 : Int) ^ bits ∧ n / (2 : Int) ^ bits * (2 : Int) ^ bits ≤ n := by
 obtain ⟨h0,h1⟩ := bits_le hb;have e := Int.mul_ediv_add_emod n ((2 : Int) ^ bits);rw [Int.mul_comm] at e;have e1 := Int.emod_nonneg n (Int.ne_of_gt h0);have e2 := Int.emod_lt_of_pos n h0
 omega
theorem clsDown_any (kd : Int) (bits : Nat) (one : Bool) (brk n : Int) (hb : bits ≤ 20) (h : -1073741823 ≤ n) (k : n ≤ 1073741823) (w : World) :
 Calls Tryz.prog 168 #[clV kd bits one brk,.int .i64 n] w (Ret w (.int .i64 (dnG bits n))) := by
 have hm := mult_in hb n;have hw : IntKind.i64.wrap (n / (2 : Int) ^ bits * (2 : Int) ^ bits) = n / (2 : Int) ^ bits * (2 : Int) ^ bits := IntWalk.i64_in _ ⟨by omega,by omega⟩
 clear hm
 go_enter Tryz.func168,Tryz.ntmps168
 go_wp2_with fail;refine wp_region_belowI (by kernel_rfl) (by kernel_rfl) (fun _ _ d _ _ h => by cases d <;> exact h) ?_
 simp only [List.map_cons,List.map_nil,ldz,lds,bare,gslot,lcz,lcs,Option.bind_some]
 repeat' ((try simp only [Act.put,lsi,lsz,lss]);first | (refine lexL_quiet (v := ?_) wantB_none rfl ?_ ?_;rotate_left;focus (intro wq hq;obtain ⟨hcq,hfq⟩ := bcell hq;go_simp;try with_reducible rfl)) | (refine lexL_loud wantB_none rfl (fun K hK => ?_);go_simp;((first | fail | skip) <;> (refine hK.out _ _ bel ?_;clear hK K))))
 (all_goals try simp only [Act.put,lsi,lsz,lss]);all_goals (refine lexL_nil ?_)
 go_wp2;go_ret;exact ⟨by simp [dnG,hw],bel⟩
theorem clsUp_any (kd : Int) (bits : Nat) (one : Bool) (brk n : Int) (hb : bits ≤ 20) (h : -1073741823 ≤ n) (k : n ≤ 1073741823) (w : World) :
 Calls Tryz.prog 169 #[clV kd bits one brk,.int .i64 n] w (Ret w (.int .i64 (upG bits n))) := by
 have hm := mult_in hb (-n);have hw : IntKind.i64.wrap (-n / (2 : Int) ^ bits * (2 : Int) ^ bits) = -n / (2 : Int) ^ bits * (2 : Int) ^ bits := IntWalk.i64_in _ ⟨by omega,by omega⟩
 have hw0 : IntKind.i64.wrap (-n) = -n := IntWalk.i64_in _ ⟨by omega,by omega⟩
 have hw2 : IntKind.i64.wrap (-(-n / (2 : Int) ^ bits * (2 : Int) ^ bits)) = -(-n / (2 : Int) ^ bits * (2 : Int) ^ bits) := IntWalk.i64_in _ ⟨by omega,by omega⟩
 clear hm
 go_enter Tryz.func169,Tryz.ntmps169
 go_wp2_with fail;refine wp_region_belowI (by kernel_rfl) (by kernel_rfl) (fun _ _ d _ _ h => by cases d <;> exact h) ?_
 simp only [List.map_cons,List.map_nil,ldz,lds,bare,gslot,lcz,lcs,Option.bind_some]
 repeat' ((try simp only [Act.put,lsi,lsz,lss]);first | (refine lexL_quiet (v := ?_) wantB_none rfl ?_ ?_;rotate_left;focus (intro wq hq;obtain ⟨hcq,hfq⟩ := bcell hq;go_simp;try with_reducible rfl)) | (refine lexL_loud wantB_none rfl (fun K hK => ?_);go_simp;((first | fail | skip) <;> (refine hK.out _ _ bel ?_;clear hK K))))
 (all_goals try simp only [Act.put,lsi,lsz,lss]);all_goals (refine lexL_nil ?_)
 go_wp2;go_ret;exact ⟨by simp [upG,hw0,hw,hw2],bel⟩
theorem clsbox_any (kd : Int) (bits : Nat) (one : Bool) (brk a b c d : Int) (hb : bits ≤ 20) (hx : okBx ⟨⟨a,b⟩,⟨c,d⟩⟩ = true) (w : World) :
 Calls Tryz.prog 163 #[clV kd bits one brk,bxV a b c d] w (Ret w (bxV (clsBox kd bits ⟨⟨a,b⟩,⟨c,d⟩⟩).lo.x (clsBox kd bits ⟨⟨a,b⟩,⟨c,d⟩⟩).lo.y (clsBox kd bits ⟨⟨a,b⟩,⟨c,d⟩⟩).hi.x (clsBox kd bits ⟨⟨a,b⟩,⟨c,d⟩⟩).hi.y)) := by
 have hn := okBx_nums.1 hx
 simp only at hn
 have HD1 := Lib.hid (fun W => clsDown_any kd bits one brk a hb (by omega) (by omega) W)
 have HD2 := Lib.hid (fun W => clsDown_any kd bits one brk b hb (by omega) (by omega) W)
 have HU1 := Lib.hid (fun W => clsUp_any kd bits one brk c hb (by omega) (by omega) W)
 have HU2 := Lib.hid (fun W => clsUp_any kd bits one brk d hb (by omega) (by omega) W)
 clear hn hx
 by_cases h1 : kd = 1
 · subst h1
   have e : clsBox 1 bits ⟨⟨a,b⟩,⟨c,d⟩⟩ = ⟨⟨dnG bits a,dnG bits b⟩,⟨upG bits c,upG bits d⟩⟩ := by unfold clsBox;rw [if_pos rfl]
   rw [e]
   clear e;generalize dnG bits a = a' at *;generalize dnG bits b = b' at *;generalize upG bits c = c' at *;generalize upG bits d = d' at *
   go_enter Tryz.func163, Tryz.ntmps163
   go_wp2_with fail;refine wp_genE (fun w2 => Below w.heap.size w w2 ∧ Blk w2 w.heap.size 62 #[.int .i64 1,.int .i64 bits,.bool one,.int .i64 brk] ∧ Blk w2 (w.heap.size + 1) 73 #[.int .i64 a,.int .i64 b,.int .i64 c,.int .i64 d] ∧ Blk w2 (w.heap.size + 1 + 1) 73 #[.int .i64 0,.int .i64 0,.int .i64 0,.int .i64 0]) ⟨bel,blkA,blkA,blkA⟩ ?_
   rintro w2 ⟨hb,hO,hP,hZ⟩;have cO := hO.cell;have cP := hP.cell;have cZ := hZ.cell;have fZ := hZ.frozen;have lO := hO.lt;have lP := hP.lt;have lZ := hZ.lt;refine wp_region_belowB (w.heap.size + 1 + 1) [0,1,2,3,5,6,7,8,11,12,13,14,16,17,18,19,4,9,10,15,20,21,22,23] (by kernel_rfl) (by kernel_rfl) (fun _ _ d _ _ h => by cases d <;> exact h) ?_
   simp only [List.map_cons, List.map_nil, ldz, lds, bare, gslot, lcz, lcs, Option.bind_some]
   repeat' ((try simp only [Act.put,lsi,lsz,lss]);first | (refine lexL_quiet (v := ?_) wantB_none rfl ?_ ?_;rotate_left;focus (intro wq hq;obtain ⟨hcq,hfq⟩ := bcellB hq;go_simp;try with_reducible rfl)) | (refine lexL_loud wantB_none rfl (fun K hK => ?_);go_simp;((first | (go_at_call 168;(with_reducible refine (HD1.out _).mono ?_);rintro e w1 ⟨rfl,hb1⟩;obtain ⟨hc1,hf1⟩ := bcell hb1;have hz1 := hb1.size;(try simp at hz1);have hbB : Below (w.heap.size + 1 + 1) w2 w1 := (Below.trans (by repeat (first | with_reducible exact Below.refl _ _ | with_reducible assumption | with_reducible refine Below.drew ?_)) (hb1.mono (by (try simp);omega)));have hy2 : w.heap.size + 1 + 1 < w1.heap.size := (by omega);have hZ1 : Blk w1 (w.heap.size + 1 + 1) 73 #[.int .i64 0,.int .i64 0,.int .i64 0,.int .i64 0] := blkA;have hbz : Below w.heap.size w w1 := (Below.trans hb (hbB.mono (by omega)));have z1 := hZ1.cell;have fz1 := hZ1.frozen) | (go_at_call 168;(with_reducible refine (HD2.out _).mono ?_);rintro e w1 ⟨rfl,hb1⟩;obtain ⟨hc1,hf1⟩ := bcell hb1;have hz1 := hb1.size;(try simp at hz1);have hbB : Below (w.heap.size + 1 + 1) w2 w1 := (Below.trans (by repeat (first | with_reducible exact Below.refl _ _ | with_reducible assumption | with_reducible refine Below.drew ?_)) (hb1.mono (by (try simp);omega)));have hy2 : w.heap.size + 1 + 1 < w1.heap.size := (by omega);have hZ1 : Blk w1 (w.heap.size + 1 + 1) 73 #[.int .i64 0,.int .i64 0,.int .i64 0,.int .i64 0] := blkA;have hbz : Below w.heap.size w w1 := (Below.trans hb (hbB.mono (by omega)));have z1 := hZ1.cell;have fz1 := hZ1.frozen) | (go_at_call 169;(with_reducible refine (HU1.out _).mono ?_);rintro e w1 ⟨rfl,hb1⟩;obtain ⟨hc1,hf1⟩ := bcell hb1;have hz1 := hb1.size;(try simp at hz1);have hbB : Below (w.heap.size + 1 + 1) w2 w1 := (Below.trans (by repeat (first | with_reducible exact Below.refl _ _ | with_reducible assumption | with_reducible refine Below.drew ?_)) (hb1.mono (by (try simp);omega)));have hy2 : w.heap.size + 1 + 1 < w1.heap.size := (by omega);have hZ1 : Blk w1 (w.heap.size + 1 + 1) 73 #[.int .i64 0,.int .i64 0,.int .i64 0,.int .i64 0] := blkA;have hbz : Below w.heap.size w w1 := (Below.trans hb (hbB.mono (by omega)));have z1 := hZ1.cell;have fz1 := hZ1.frozen) | (go_at_call 169;(with_reducible refine (HU2.out _).mono ?_);rintro e w1 ⟨rfl,hb1⟩;obtain ⟨hc1,hf1⟩ := bcell hb1;have hz1 := hb1.size;(try simp at hz1);have hbB : Below (w.heap.size + 1 + 1) w2 w1 := (Below.trans (by repeat (first | with_reducible exact Below.refl _ _ | with_reducible assumption | with_reducible refine Below.drew ?_)) (hb1.mono (by (try simp);omega)));have hy2 : w.heap.size + 1 + 1 < w1.heap.size := (by omega);have hZ1 : Blk w1 (w.heap.size + 1 + 1) 73 #[.int .i64 0,.int .i64 0,.int .i64 0,.int .i64 0] := blkA;have hbz : Below w.heap.size w w1 := (Below.trans hb (hbB.mono (by omega)));have z1 := hZ1.cell;have fz1 := hZ1.frozen) | skip) <;> (refine hK.out _ _ (by first | with_reducible exact swapB1 | with_reducible exact Below.drew swapB1 | exact bel) ?_;clear hK K))))
   (all_goals try simp only [Act.put,lsi,lsz,lss]);all_goals (refine lexL_nil ?_)
   go_wp2;refine post_gen2 (R := fun w2 => Blk w2 (w.heap.size + 1 + 1) 73 #[.int .i64 a',.int .i64 b',.int .i64 c',.int .i64 d'] ∧ Below w.heap.size w w2) ⟨?_,bel⟩ ?_
   · repeat (first | with_reducible exact box_put (x := .int .i64 0) (y := .int .i64 0) (z := .int .i64 0) (u := .int .i64 0) blkA | (with_reducible refine Blk.new ?_ rfl;focus (simp;done)) | with_reducible refine Blk.alloc ?_ _ | with_reducible refine Blk.drew ?_)
   rintro w2 ⟨HR,hb2⟩;have r0 := HR.cell 0;have r1 := HR.cell 1;have r2 := HR.cell 2;have r3 := HR.cell 3;simp only [lta,lcz,lcs] at r0 r1 r2 r3;exact bodyPost_ret (v := bxV a' b' c' d') (by simp [results,Tryz.results163,go_sem,r0,r1,r2,r3]) rfl ⟨rfl,hb2⟩
 · by_cases h2 : kd = 2
   · subst h2
     have e : clsBox 2 bits ⟨⟨a,b⟩,⟨c,d⟩⟩ = ⟨⟨a,-1073741823⟩,⟨c,1073741823⟩⟩ := by unfold clsBox;rw [if_neg (by decide),if_pos rfl]
     rw [e]
     clear e HD1 HD2 HU1 HU2
     go_enter Tryz.func163, Tryz.ntmps163
     go_wp2_with fail;refine post_gen2 (R := fun w2 => Blk w2 (w.heap.size + 1 + 1) 73 #[.int .i64 a,.int .i64 (-1073741823),.int .i64 c,.int .i64 1073741823] ∧ Below w.heap.size w w2) ⟨?_,bel⟩ ?_
     · repeat (first | with_reducible exact box_put (x := .int .i64 0) (y := .int .i64 0) (z := .int .i64 0) (u := .int .i64 0) blkA | (with_reducible refine Blk.new ?_ rfl;focus (simp;done)) | with_reducible refine Blk.alloc ?_ _ | with_reducible refine Blk.drew ?_)
     rintro w2 ⟨HR,hb2⟩;have r0 := HR.cell 0;have r1 := HR.cell 1;have r2 := HR.cell 2;have r3 := HR.cell 3;simp only [lta,lcz,lcs] at r0 r1 r2 r3;exact bodyPost_ret (v := bxV a (-1073741823) c 1073741823) (by simp [results,Tryz.results163,go_sem,r0,r1,r2,r3]) rfl ⟨rfl,hb2⟩
   · have e : clsBox kd bits ⟨⟨a,b⟩,⟨c,d⟩⟩ = ⟨⟨a,b⟩,⟨c,d⟩⟩ := by unfold clsBox;rw [if_neg h1,if_neg h2]
     rw [e]
     have e1 : (kd == 1) = false := by rw [beq_eq_false_iff_ne];exact h1
     have e2 : (kd == 2) = false := by rw [beq_eq_false_iff_ne];exact h2
     clear e HD1 HD2 HU1 HU2 h1 h2
     go_enter Tryz.func163, Tryz.ntmps163
     go_wp2_with fail;refine post_gen2 (R := fun w2 => Blk w2 (w.heap.size + 1 + 1) 73 #[.int .i64 a,.int .i64 b,.int .i64 c,.int .i64 d] ∧ Below w.heap.size w w2) ⟨?_,bel⟩ ?_
     · repeat (first | with_reducible exact box_put (x := .int .i64 0) (y := .int .i64 0) (z := .int .i64 0) (u := .int .i64 0) blkA | (with_reducible refine Blk.new ?_ rfl;focus (simp;done)) | with_reducible refine Blk.alloc ?_ _ | with_reducible refine Blk.drew ?_)
     rintro w2 ⟨HR,hb2⟩;have r0 := HR.cell 0;have r1 := HR.cell 1;have r2 := HR.cell 2;have r3 := HR.cell 3;simp only [lta,lcz,lcs] at r0 r1 r2 r3;exact bodyPost_ret (v := bxV a b c d) (by simp [results,Tryz.results163,go_sem,r0,r1,r2,r3]) rfl ⟨rfl,hb2⟩
theorem blk_ownsY {w : World} {g B : Nat} {l : List Nat} (h : Blk w g 5 (ycells l).toArray) (hB : B ≤ g) (hl : l.length ≤ 1000000) : w.ownsRow B 5 1 (.slice (some ⟨g,0,none⟩) l.length l.length) l.length (ycells l) :=
 ⟨by simp [ycells],.inr ⟨g,l.length,_,rfl,hB,h,Nat.le_refl _,by unfold maxLen;omega,by simp [ycells],by rw [List.toList_toArray,List.take_of_length_le (by simp [ycells])]⟩⟩
theorem made_y (n : Nat) : madeCells #[Value.int .u8 0] n = (ycells (List.replicate n 0)).toArray := by
 apply Array.ext_getElem?
 intro j
 by_cases hj : j < n
 · simp [madeCells,ycells,hj,Nat.mod_one]
 · simp [madeCells,ycells,hj]
theorem make_y (n : Nat) (hn : n ≤ 1000000) (w : World) : (Instr.makeSlice 93 (.int .i64 (n : Int)) (.int .i64 (n : Int))).run Tryz.prog w = .ok (.slice (some ⟨w.heap.size,0,none⟩) n n) (w.alloc (.cells (ycells (List.replicate n 0)).toArray 5)) := by
 rw [← made_y]
 exact run_make_row' _ _ (.int .u8 0) 1 Tryz.underlying93 Tryz.infoByte rfl .i64 .i64 n (by omega) (by omega) w
theorem clsMake_any (kd : Int) (bits : Nat) (one : Bool) (brk : Int) (hbits : bits ≤ 20) (B n c : Nat) (k : Int) (A : Option Addr) (l : List Pt) (w : World) (hl : PtsAt w B A n l) (hB : B ≤ w.heap.size) (hn : n ≤ 1000000) :
 Calls Tryz.prog 157 #[clV kd bits one brk,obV k A n c] w fun e w' => ∃ s,e = .returned (.tuple #[s,errV ((clsC kd bits one brk).make ⟨k,l⟩).1]) ∧ w'.ownsRow w.heap.size 5 1 s ((clsC kd bits one brk).make ⟨k,l⟩).2.length (ycells ((clsC kd bits one brk).make ⟨k,l⟩).2) ∧ Below w.heap.size w w' := by
 have e1 : ((clsC kd bits one brk).make ⟨k,l⟩).1 = ckOb ⟨k,l⟩ := rfl;have e2 : ((clsC kd bits one brk).make ⟨k,l⟩).2 = if ckOb ⟨k,l⟩ = 0 then (if brk = 1 then List.replicate 65 0 else if kd = 0 then [] else keyL (clsBox kd bits (boundsS ⟨k,l⟩))) else [] := rfl
 rw [e1,e2]
 clear e1 e2
 by_cases ho : ckOb ⟨k,l⟩ = 0
 case neg =>
  have HB := Lib.hid (fun W (hW : Below w.heap.size w W) => rBounds_bad B n c k A l W (hl.tr hW hB) (Nat.le_trans hB hW.size) hn ho)
  obtain ⟨m,hm⟩ : ∃ m,ckOb ⟨k,l⟩ = m := ⟨_,rfl⟩
  rw [hm] at HB ho ⊢
  rw [if_neg ho]
  have hm0 : ((m : Int) != 0) = true := by rw [bne_iff_ne];omega
  have HE := Lib.hid (errV_pos ho);clear hl hm ho
  go_enter Tryz.func157, Tryz.ntmps157
  go_wp2_with (go_at_call 54;(with_reducible refine (HB.out _ bel).mono ?_);rintro e w1 ⟨rfl,hb1⟩;obtain ⟨hc1,hf1⟩ := bcell hb1;have hz1 := hb1.size;(try simp at hz1);have hy0 : w.heap.size < w1.heap.size := (by omega))
  go_ret2
  exact ⟨_,by rw [HE.out];rfl,World.ownsRow_nil _ _ _ _,bel⟩
 have HB := Lib.hid (fun W (hW : Below w.heap.size w W) => rBounds_ok B n c k A l W (hl.tr hW hB) (Nat.le_trans hB hW.size) hn ho)
 have hok := bounds_okBx ho
 rw [if_pos ho,ho]
 generalize boundsS ⟨k,l⟩ = X at *;clear hl ho
 by_cases hb1 : brk = 1
 · subst hb1
   rw [if_pos rfl]
   have hmk : ∀ w : World,(Instr.makeSlice 93 (.int .i64 65) (.int .i64 65)).run Tryz.prog w = .ok (.slice (some ⟨w.heap.size,0,none⟩) 65 65) (w.alloc (.cells (ycells (List.replicate 65 0)).toArray 5)) := fun w => make_y 65 (by decide) w
   generalize hrp : List.replicate 65 0 = R at *;have hR65 : R.length = 65 := by rw [← hrp];rfl
   clear hrp
   go_enter Tryz.func157, Tryz.ntmps157
   go_wp2_with (go_at_call 54;(with_reducible refine (HB.out _ bel).mono ?_);rintro e w1 ⟨rfl,hb1⟩;obtain ⟨hc1,hf1⟩ := bcell hb1;have hz1 := hb1.size;(try simp at hz1);have hy0 : w.heap.size < w1.heap.size := (by omega))
   go_ret2
   have h0 := fun (W : World) g (h : Blk W g 5 (ycells R).toArray) (h2 : w.heap.size ≤ g) => blk_ownsY h h2 (by omega)
   simp only [hR65] at h0 ⊢
   exact ⟨_,rfl,h0 _ (w1.heap.size + 1) blkA (by omega),bel⟩
 have hbe : (brk == 1) = false := by rw [beq_eq_false_iff_ne];exact hb1
 rw [if_neg hb1]
 by_cases hk0 : kd = 0
 · subst hk0
   rw [if_pos rfl]
   clear hb1
   go_enter Tryz.func157, Tryz.ntmps157
   go_wp2_with (go_at_call 54;(with_reducible refine (HB.out _ bel).mono ?_);rintro e w1 ⟨rfl,hb1⟩;obtain ⟨hc1,hf1⟩ := bcell hb1;have hz1 := hb1.size;(try simp at hz1);have hy0 : w.heap.size < w1.heap.size := (by omega))
   go_ret2
   exact ⟨_,rfl,World.ownsRow_nil _ _ _ _,bel⟩
 rw [if_neg hk0]
 have hke : (kd == 0) = false := by rw [beq_eq_false_iff_ne];exact hk0
 have HX := Lib.hid (fun W => clsbox_any kd bits one brk X.lo.x X.lo.y X.hi.x X.hi.y hbits hok W)
 have hin := okBx_in (clsBox_ok (kd := kd) (bits := bits) hok).1;rw [show (⟨⟨X.lo.x,X.lo.y⟩,⟨X.hi.x,X.hi.y⟩⟩ : Bx) = X from rfl] at HX
 obtain ⟨Z,hZ⟩ : ∃ Z,clsBox kd bits X = Z := ⟨_,rfl⟩
 rw [hZ] at HX hin ⊢
 have HK := Lib.hid (fun w' => rkey_any Z.lo.x Z.lo.y Z.hi.x Z.hi.y hin w')
 rw [show (⟨⟨Z.lo.x,Z.lo.y⟩,⟨Z.hi.x,Z.hi.y⟩⟩ : Bx) = Z from rfl] at HK
 generalize keyL Z = K at *;clear hb1 hk0 hok hin hZ
 go_enter Tryz.func157,Tryz.ntmps157
 go_wp2_with (first | (go_at_call 54;(with_reducible refine (HB.out _ bel).mono ?_);rintro e w1 ⟨rfl,hb1⟩;obtain ⟨hc1,hf1⟩ := bcell hb1;have hz1 := hb1.size;(try simp at hz1);have hy0 : w.heap.size < w1.heap.size := (by omega)) | (go_at_call 163;(with_reducible refine (HX.out _).mono ?_);rintro e w4 ⟨rfl,hb4⟩) | (go_at_call 162;(with_reducible refine (HK.out _).mono ?_);rintro e w5 ⟨s5,rfl,ho5,hb5⟩))
 go_ret2
 refine ⟨_,rfl,ownB_base ho5 ?_,bel⟩;have := hb4.size
 (try simp at this)
 omega
theorem clsUnion_any (kd : Int) (bits : Nat) (one : Bool) (brk : Int) (B n c : Nat) (A : Option Addr) (L : List (List Nat)) (w : World) (hl : RbsAt w B A n L) (hB : B ≤ w.heap.size) (hn2 : n ≤ 1000000) (h256 : ∀ l ∈ L,∀ x ∈ l,x < 256) (hlen : ∀ l ∈ L,l.length ≤ 1000000) :
 Calls Tryz.prog 161 #[clV kd bits one brk,.slice A n c] w (RetB w ((clsC kd bits one brk).un L)) := by
 have HK := Lib.hid (fun W (hW : Below w.heap.size w W) => rUnion_any B n c A L W (hl.tr hW hB) (Nat.le_trans hB hW.size) hn2 h256 hlen)
 have e1 : (clsC kd bits one brk).un L = if kd = 0 ∨ L = [] then [] else if brk = 4 then L.headD [] else unionK L := rfl
 rw [e1]
 clear e1;have hLn := hl.1;have HL := Lib.hid hl;clear hl
 by_cases h0 : kd = 0
 · subst h0
   rw [if_pos (.inl rfl)]
   go_enter Tryz.func161, Tryz.ntmps161
   go_wp2_with fail;go_ret;exact ⟨_,rfl,World.ownsRow_nil _ _ _ _,bel⟩
 have e3 : (kd == 0) = false := by rw [beq_eq_false_iff_ne];exact h0
 by_cases hn0 : n = 0
 · subst hn0
   rw [if_pos (.inr (List.eq_nil_of_length_eq_zero hLn))]
   clear h0
   go_enter Tryz.func161, Tryz.ntmps161
   go_wp2_with fail;go_ret;exact ⟨_,rfl,World.ownsRow_nil _ _ _ _,bel⟩
 have hL0 : L ≠ [] := fun e => hn0 (by rw [← hLn,e];rfl)
 have en : ((n : Int) == 0) = false := by rw [beq_eq_false_iff_ne];omega
 rw [if_neg (fun h => h.elim h0 hL0)]
 by_cases h4 : brk = 4
 · subst h4
   rw [if_pos rfl]
   obtain ⟨b,off,A',n',cc,rfl,hab,hcell,hby,he,hz,hnc⟩ := HL.out.at_ (k := 0) (by omega)
   have hhd : L.headD [] = L.getD 0 [] := by cases L <;> rfl
   rw [hhd]
   have hl0 := hlen _ (List.mem_of_getElem? he);generalize L.getD 0 [] = Y at *;obtain ⟨i0,qi,qz0,qz1,qz2⟩ := info_parts Tryz.infoByte;have hyl := hby.1;have hbw : b < w.heap.size := by omega
   have hn1 : (0 : Int) < (n : Int) := by omega
   rw [Nat.add_zero] at hcell;rw [hyl] at hl0;have HBY := Lib.hid hby;clear h0 hn0 hL0 he hhd HK hlen h256 hby
   have HW0 : Hid (((w.alloc (.cells #[.int .i64 kd,.int .i64 bits,.bool one,.int .i64 4] 62)).alloc (.cells #[] 5)).ownsRow w.heap.size 5 1 (.slice (some ⟨w.heap.size + 1,0,none⟩) 0 0) 0 []) := by
    have h := World.ownsRow_made (base := w.heap.size) (e := 5) (size := 1) (w.alloc (.cells #[.int .i64 kd,.int .i64 bits,.bool one,.int .i64 4] 62)) #[] 0 (by simp) (Nat.zero_le _) rfl
    simp only [World.size_alloc] at h;exact h
   rcases A' with _ | ad
   · have hcc := hz rfl
     have hn'0 : n' = 0 := by omega
     subst hcc hn'0;have hY : Y = [] := List.eq_nil_of_length_eq_zero hyl;subst hY
     go_enter Tryz.func161, Tryz.ntmps161
     go_wp2_with (at_builtin;go_must (refine wpList_append_own_none rfl _ _ 93 rfl w.heap.size 5 i0 1 Tryz.underlying93 qi _ _ _ rfl HW0.out rfl ?_))
     go_ret;refine ⟨.slice (some ⟨w.heap.size + 1,0,none⟩) 0 0,by simp,?_,bel⟩
     exact HW0.out
   · have hnews : ∀ (j : Nat) (u : Value), (ycells Y)[j]? = some u → w.cell? (ad.add j) = some u := by
      intro j u hj
      rcases Nat.eq_zero_or_pos n' with hn0 | hn
      · have hl0 : Y = [] := List.eq_nil_of_length_eq_zero (hyl.trans hn0)
        subst hl0
        simp [ycells] at hj
      · obtain ⟨b, off, e, _⟩ := HBY.out.2 hn
        injection e with e
        subst e;exact BysAt.news HBY.out hn j u hj
     have HN := Lib.hid hnews;clear hnews hz
     go_enter Tryz.func161, Tryz.ntmps161
     go_wp2_with (at_builtin;go_must (refine wpList_append_own _ rfl _ _ 93 rfl w.heap.size 5 i0 (.int .u8 0) 1 1 Tryz.underlying93 qi qz0 qz1 qz2 rfl (by decide) _ _ _ rfl HW0.out ad n' cc (ycells Y) rfl ?qc1 ?qc2 ?qc3 ?qc4 ?qc5 ?qc6 ?_))
     case qc1 => simp [ycells, hyl]
     case qc2 =>
      intro j u hj;exact Lib.cell?_alloc_some _ (Lib.cell?_alloc_some _ (HN.out j u hj))
     case qc3 => exact ycells_one Y
     case qc4 => unfold maxLen;omega
     case qc5 => omega
     case qc6 => simp;omega
     intro v' w1 hown hgrow hnil
     try rw [Nat.zero_add] at hown
     go_wp2;go_ret;exact ⟨_,rfl,by rw [hyl];exact hown,(((Below.refl _ w).alloc (Nat.le_refl _) _).alloc (by simp) _).grown hgrow (by simp;omega) (by intro k hk;simp [Value.ownBlock] at hk;omega)⟩
 rw [if_neg h4]
 have e4 : (brk == 4) = false := by rw [beq_eq_false_iff_ne];exact h4
 generalize unionK L = U at *;clear h0 h4 hn0 hL0 h256 hlen
 go_enter Tryz.func161,Tryz.ntmps161
 go_wp2_with (go_at_call 166;(with_reducible refine (HK.out _ bel).mono ?_);rintro e w1 ⟨s1,rfl,ho1,hb1⟩)
 go_ret;exact ⟨_,rfl,ownB_base ho1 (by first | (simp;done) | (simp;omega)),bel⟩
theorem ocl_none (n : Nat) : ocl (fun _ => false) n = (List.replicate n false).map Value.bool := by
 apply List.ext_getElem?
 intro j
 by_cases hj : j < n
 · simp [ocl,hj]
 · simp [ocl,hj]
theorem ocl_last (m : Nat) : ocl (fun j => false || decide (j = m)) (m + 1) = (List.replicate m false ++ [true]).map Value.bool := by
 apply List.ext_getElem?
 intro j
 rcases Nat.lt_trichotomy j m with h | h | h
 · simp [ocl,List.getElem?_append_left,h,show j < m + 1 by omega,show ¬ j = m by omega]
 · subst h
   simp [ocl]
 · simp [ocl,show ¬ j < m + 1 by omega]
   (try omega)
theorem ocl_half (n h : Nat) (hh : h ≤ n) : ocl (fun j => decide (j < h)) n = (List.replicate h true ++ List.replicate (n - h) false).map Value.bool := by
 apply List.ext_getElem?
 intro j
 by_cases h1 : j < h
 · simp [ocl,List.getElem?_append_left,h1,show j < n by omega]
 · by_cases h2 : j < n
   · rw [List.map_append,List.getElem?_append_right (by simp;omega)]
     simp [ocl, h1, h2, show j - h < n - h by omega]
   · simp [ocl, h2]
     (try omega)
theorem clsSplit_any (kd : Int) (bits : Nat) (one : Bool) (brk : Int) (B n c : Nat) (A : Option Addr) (L : List (List Nat)) (w : World) (hl : RbsAt w B A n L) (hB : B ≤ w.heap.size) (hn2 : n ≤ 1000000) (h256 : ∀ l ∈ L,∀ x ∈ l,x < 256) (hlen : ∀ l ∈ L,l.length ≤ 1000000) :
 Calls Tryz.prog 160 #[clV kd bits one brk,.slice A n c] w fun e w' => ∃ g,e = .returned (.slice (some ⟨g,0,none⟩) n n) ∧ Blk w' g 4 (((clsC kd bits one brk).split L).map Value.bool).toArray ∧ Below w.heap.size w w' := by
 have HK := Lib.hid (fun W (hW : Below w.heap.size w W) => rSplit_any B n c A L W (hl.tr hW hB) (Nat.le_trans hB hW.size) hn2 h256 hlen)
 have e1 : (clsC kd bits one brk).split L = if brk = 5 then List.replicate L.length false else if one = true ∧ 0 < L.length then List.replicate (L.length - 1) false ++ [true]
  else if kd = 0 then List.replicate (L.length / 2) true ++ List.replicate (L.length - L.length / 2) false else splitS (L.map boxK) := rfl
 rw [e1,hl.1]
 clear e1 hl h256 hlen;generalize splitS (L.map boxK) = V at *;have HM := make_b n hn2
 by_cases h5 : brk = 5
 · subst h5
   rw [if_pos rfl, ← ocl_none]
   go_enter Tryz.func160, Tryz.ntmps160
   go_wp2_with fail;go_ret;exact ⟨_,rfl,blkA,bel⟩
 have e5 : (brk == 5) = false := by rw [beq_eq_false_iff_ne];exact h5
 rw [if_neg h5]
 by_cases h1 : one = true ∧ 0 < n
 · obtain ⟨rfl,hn0⟩ := h1
   obtain ⟨m,rfl⟩ : ∃ m,n = m + 1 := ⟨n - 1,by omega⟩
   rw [if_pos ⟨rfl, hn0⟩, Nat.add_sub_cancel, ← ocl_last]
   have HM' : ∀ w : World,(Instr.makeSlice 81 (.int .i64 ((m : Int) + 1)) (.int .i64 ((m : Int) + 1))).run Tryz.prog w = .ok (.slice (some ⟨w.heap.size,0,none⟩) (m + 1) (m + 1)) (w.alloc (.cells (ocl (fun _ => false) (m + 1)).toArray 4)) := HM
   clear h5 HK HM;have hm1 : (0 : Int) < (m : Int) + 1 := by omega
   have ho : (ocl (fun _ => false) (m + 1))[m]? = some (.bool false) := by simp [ocl]
   go_enter Tryz.func160, Tryz.ntmps160
   go_wp2_with fail;refine post_gen2 (R := fun w2 => Blk w2 (w.heap.size + 1) 4 (ocl (fun j => false || decide (j = m)) (m + 1)).toArray ∧ Below w.heap.size w w2) ⟨?_,bel⟩ ?_
   · have hos : (ocl (fun _ => false) (m + 1)).set m (.bool true) = ocl (fun j => false || decide (j = m)) (m + 1) := by
      have := congrArg Array.toList (ocl_set (s := fun _ => false) (n := m + 1) (k := m) (by omega))
      simpa using this
     rw [hos]
     exact blkA
   rintro w2 ⟨hR,hb2⟩;go_ret;exact ⟨_,rfl,hR,hb2⟩
 rw [if_neg h1]
 have HN1 := Lib.hid h1
 by_cases h0 : kd = 0
 · subst h0
   rw [if_pos rfl, ← ocl_half n (n / 2) (by omega)]
   obtain ⟨m2,hm2⟩ : ∃ m,n / 2 = m := ⟨_,rfl⟩
   rw [hm2]
   have q1 : (n : Int).tdiv 2 = (m2 : Int) := by rw [← hm2];rfl
   have q2 : (n : Int) / 2 = (m2 : Int) := by omega
   have hmn : m2 ≤ n := by omega
   have hE := ocl_half n 0 (by omega)
   clear h5 HK h1 hm2
   have hon : one = false ∨ n = 0 := by
    cases one with
    | false => exact .inl rfl
    | true => exact .inr (by have := HN1.out;simp at this;omega)
   have hst : ocl (fun _ => false) n = ocl (fun j => decide (j < 0)) n := by simp [ocl]
   have hgo : ∀ (K : Nat),True := fun _ => trivial
   clear hE hgo HN1
   rcases hon with rfl | rfl
   · go_enter Tryz.func160, Tryz.ntmps160
     go_wp2_with fail
     go_loopw [6] (fun vi wr => ∃ j : Nat, j ≤ m2 ∧ vi = .int .i64 j ∧ Blk wr (w.heap.size + 1) 4 (ocl (fun x => decide (x < j)) n).toArray ∧ Below w.heap.size w wr) (fun vi _ => m2 - (intOf vi).toNat)
     case atStart => exact ⟨0,by omega,rfl,by rw [← hst];exact blkA,bel⟩
     case round =>
      obtain ⟨j,hj,rfl,hR,hb⟩ := hrel;have cR := hR.cell j;have fR := hR.frozen;have lR := hR.lt
      by_cases hlt : j < m2
      · have hjn : j < n := by omega
        have hjn' : (j : Int) < (n : Int) := by omega
        have hj' : (j : Int) < (m2 : Int) := by omega
        have ho : (ocl (fun x => decide (x < j)) n)[j]? = some (.bool false) := by simp [ocl,hjn]
        rw [lta,ho] at cR;have hR2 := (hR.set_ j (.bool true)).eq_ (ocl_set hjn)
        have hoe : ocl (fun x => decide (x < j) || decide (x = j)) n = ocl (fun x => decide (x < j + 1)) n := by
         unfold ocl;refine List.map_congr_left fun x _ => ?_
         congr 1
         rw [Bool.eq_iff_iff]
         simp
         omega
        rw [hoe] at hR2;clear ho hoe hst HM;go_wp2_with fail
        go_roundw
        case rel => exact ⟨j + 1, by omega, by go_num, hR2, bel⟩
        case measure => simp [intOf];omega
      · obtain rfl : m2 = j := by omega
        go_wp2_with fail;go_ret;exact ⟨_,rfl,hR,hb⟩
   · obtain rfl : m2 = 0 := by omega
     have HM' : ∀ w : World,(Instr.makeSlice 81 (.int .i64 0) (.int .i64 0)).run Tryz.prog w = .ok (.slice (some ⟨w.heap.size,0,none⟩) 0 0) (w.alloc (.cells (ocl (fun _ => false) 0).toArray 4)) := HM
     have q3 : (0 : Int).tdiv 2 = 0 := by decide
     clear HM q1 q2
     cases one
     all_goals
      go_enter Tryz.func160, Tryz.ntmps160
      go_wp2_with fail
      go_loopw [6] (fun vi wr => vi = .int .i64 0 ∧ Blk wr (w.heap.size + 1) 4 (ocl (fun x => decide (x < 0)) 0).toArray ∧ Below w.heap.size w wr) (fun vi _ => 0)
      case atStart => exact ⟨rfl,by rw [← hst];exact blkA,bel⟩
      case round =>
       obtain ⟨rfl,hR,hb⟩ := hrel;go_wp2_with fail;go_ret;exact ⟨_,rfl,hR,hb⟩
 have e0 : (kd == 0) = false := by rw [beq_eq_false_iff_ne];exact h0
 rw [if_neg h0]
 clear h5 h0
 have hon : one = false ∨ n = 0 := by
  cases one with
  | false => exact .inl rfl
  | true => exact .inr (by have := HN1.out;simp at this;omega)
 clear h1 HN1
 rcases hon with rfl | rfl
 · go_enter Tryz.func160,Tryz.ntmps160
   go_wp2_with (go_at_call 165;(with_reducible refine (HK.out _ bel).mono ?_);rintro e w1 ⟨g1,rfl,hR,hb1⟩)
   go_ret;exact ⟨_,rfl,hR,bel⟩
 · have HM' : ∀ w : World,(Instr.makeSlice 81 (.int .i64 0) (.int .i64 0)).run Tryz.prog w = .ok (.slice (some ⟨w.heap.size,0,none⟩) 0 0) (w.alloc (.cells (ocl (fun _ => false) 0).toArray 4)) := HM
   clear HM
   cases one
   all_goals
    go_enter Tryz.func160, Tryz.ntmps160
    go_wp2_with (go_at_call 165;(with_reducible refine (HK.out _ bel).mono ?_);rintro e w1 ⟨g1,rfl,hR,hb1⟩)
    go_ret;exact ⟨_,rfl,hR,bel⟩
theorem cMakeM (v : Value) (w : World) : (Go.method 337 62 v "Make").run Tryz.prog w = .ok (157,v) w := by kernel_rfl
theorem cMakeU (v : Value) (w : World) : (Go.method 337 62 v "Union").run Tryz.prog w = .ok (161,v) w := by kernel_rfl
theorem cMakeS (v : Value) (w : World) : (Go.method 337 62 v "Split").run Tryz.prog w = .ok (160,v) w := by kernel_rfl
theorem cEntM (args : Array Value) (w : World) : (callFunc 157 args).run Tryz.prog w = .ok (.enter 157 args) w := by kernel_rfl
theorem cEntU (args : Array Value) (w : World) : (callFunc 161 args).run Tryz.prog w = .ok (.enter 161 args) w := by kernel_rfl
theorem cEntS (args : Array Value) (w : World) : (callFunc 160 args).run Tryz.prog w = .ok (.enter 160 args) w := by kernel_rfl
theorem clsC_make_form (kd : Int) (bits : Nat) (one : Bool) (brk : Int) (o : Ob) : (∀ x ∈ ((clsC kd bits one brk).make o).2,x < 256) ∧ ((clsC kd bits one brk).make o).2.length ≤ 65 := by
 simp only [clsC]
 split
 · rename_i h
   split
   · refine ⟨fun x hx => ?_, by simp⟩
     rw [List.mem_replicate] at hx
     omega
   · split
     · exact ⟨by simp, by simp⟩
     · refine ⟨fun x hx => keyL_byte hx, ?_⟩
       have := keyL_64 (clsBox_ok (kd := kd) (bits := bits) (bounds_okBx h)).1
       omega
 · exact ⟨by simp,by simp⟩
theorem clsC_split_len (kd : Int) (bits : Nat) (one : Bool) (brk : Int) (L : List (List Nat)) : ((clsC kd bits one brk).split L).length = L.length := by
 simp only [clsC]
 split
 · simp
 · split
   · rename_i h
     simp
     omega
   · split
     · simp
       omega
     · rw [splitS_len, List.length_map]
theorem clsC_un_form (kd : Int) (bits : Nat) (one : Bool) (brk : Int) (L : List (List Nat)) (h256 : ∀ l ∈ L,∀ x ∈ l,x < 256) (hlen : ∀ l ∈ L,l.length ≤ 1000000) : (∀ x ∈ (clsC kd bits one brk).un L,x < 256) ∧ ((clsC kd bits one brk).un L).length ≤ 1000000 := by
 simp only [clsC]
 split
 · exact ⟨by simp,by simp⟩
 · split
   · cases L with
     | nil => exact ⟨by simp, by simp⟩
     | cons a r => exact ⟨h256 a (by simp), hlen a (by simp)⟩
   · exact unionK_formC L
theorem clAt_cls (kd : Int) (bits : Nat) (one : Bool) (brk : Int) (hbits : bits ≤ 20) : ClAt 62 (clV kd bits one brk) (clsC kd bits one brk) 157 0 0 161 160 where
 mM := cMakeM _
 mU := cMakeU _
 mS := cMakeS _
 eM := cEntM
 eU := cEntU
 form := fun o => ⟨(clsC_make_form kd bits one brk o).1,Nat.le_trans (clsC_make_form kd bits one brk o).2 (by decide)⟩
 formU := clsC_un_form kd bits one brk
 make := fun W B m c k A l hl hB hm => (clsMake_any kd bits one brk hbits B m c k A l W hl hB hm).mono fun e w' h => by
  obtain ⟨s,rfl,h1,h3⟩ := h;refine ⟨s,_,rfl,h1,fun h0 => ?_,fun h0 => ?_,h3⟩
  · rw [h0];rfl
  · rw [errV_pos h0];exact ⟨_,_,rfl⟩
 un := fun W B c A L hl hB hn h1 h2 => clsUnion_any kd bits one brk B L.length c A L W hl hB hn h1 h2
 split := fun L hn h1 h2 => ⟨cEntS,by rw [clsC_split_len];exact hn,fun W B A c hl hB => (clsSplit_any kd bits one brk B L.length c A L W hl hB hn h1 h2).mono fun e w' h => by
  obtain ⟨g,rfl,h3,h4⟩ := h;have h5 := bos_of_blk h3;refine ⟨some ⟨g,0,none⟩,L.length,?_,h5,h4⟩
  rw [clsC_split_len]⟩
end Go.Proofs.YtcbjmcnebmhgpaaGreat
