/-
  Plain laws of the reference's numbers: words of 32 bits,their value,the product word by word;the division bit by bit.
  Contracts of the reference's numbers: words, join, times.
  Contracts of the reference's numbers: Mul, Times, Abs, Square, Compare, Add, CompareProducts, gcd.
  Contracts of the reference's numbers: Add, CompareProducts, gcd, Num, CompareDist.
  Contracts of the reference's numbers: Div, Lowest.
-/
import Derived.Test.YtcbjmcnebmhgpaaGreatKWide
import Derived.Test.YtcbjmcnebmhgpaaGreatKLex
import Derived.Test.YtcbjmcnebmhgpaaGreatKBits2
import Derived.Lib.EndianBits
import Derived.Deep.OwnRows
import Derived.Test.YtcbjmcnebmhgpaaGreatKPlainSplit
import Derived.StillTailTactics
import Derived.Test.YtcbjmcnebmhgpaaGreatKAlloc
set_option linter.unusedVariables false
set_option linter.unusedSimpArgs false
set_option maxHeartbeats 4000000
set_option maxRecDepth 20000
namespace Pg
def valF (f : Nat → Nat) : Nat → Nat
 | 0 => 0
 | n + 1 => valF f n + f n * 4294967296 ^ n
def updF (f : Nat → Nat) (j v : Nat) : Nat → Nat := fun i => if i = j then v else f i
theorem valF_upd (f : Nat → Nat) (j v : Nat) : ∀ n,valF (updF f j v) n + (if j < n then f j * 4294967296 ^ j else 0) = valF f n + (if j < n then v * 4294967296 ^ j else 0) := by
 intro n
 induction n with
 | zero => simp [valF]
 | succ n ih =>
   rw [valF, valF]
   rcases Nat.lt_trichotomy j n with h | h | h
   · have e : updF f j v n = f n := by unfold updF;rw [if_neg (by omega)]
     rw [e, if_pos (by omega), if_pos (by omega)]
     rw [if_pos h,if_pos h] at ih
     omega
   · subst h
     have e : updF f j v j = v := by unfold updF;rw [if_pos rfl]
     rw [e, if_pos (by omega), if_pos (by omega)]
     rw [if_neg (by omega),if_neg (by omega)] at ih
     omega
   · have e : updF f j v n = f n := by unfold updF;rw [if_neg (by omega)]
     rw [e, if_neg (by omega), if_neg (by omega)]
     rw [if_neg (by omega),if_neg (by omega)] at ih
     omega
theorem valF_zero (n : Nat) : valF (fun _ => 0) n = 0 := by
 induction n with
 | zero => rfl
 | succ n ih => rw [valF,ih];simp
theorem powU_add (i k : Nat) : (4294967296 : Nat) ^ (i + k) = 4294967296 ^ i * 4294967296 ^ k := Nat.pow_add _ _ _
structure TmI (a b f : Nat → Nat) (N n i k c : Nat) : Prop where
 val : valF f N + c * 4294967296 ^ (i + k) = valF a i * valF b n + a i * valF b k * 4294967296 ^ i
 small : ∀ j,f j < 4294967296
 none : ∀ j,i + n ≤ j → f j = 0
 carry : c < 4294967296
structure TmO (a b f : Nat → Nat) (N n i : Nat) : Prop where
 val : valF f N = valF a i * valF b n
 small : ∀ j,f j < 4294967296
 none : ∀ j,i + n ≤ j → f j = 0
theorem tm_start (a b : Nat → Nat) (N n : Nat) : TmO a b (fun _ => 0) N n 0 := ⟨by rw [valF_zero];simp [valF],fun _ => by decide,fun _ _ => rfl⟩
theorem tm_row {a b f : Nat → Nat} {N n i : Nat} (h : TmO a b f N n i) : TmI a b f N n i 0 0 := ⟨by rw [h.val];simp [valF],h.small,h.none,by decide⟩
theorem tm_bound {a b f : Nat → Nat} {N n i k c : Nat} (ha : a i < 4294967296) (hb : b k < 4294967296) (h : TmI a b f N n i k c) : a i * b k + f (i + k) + c < 18446744073709551616 ∧ a i * b k < 18446744073709551616 ∧ a i * b k + f (i + k) < 18446744073709551616 := by
 have h1 := h.small (i + k);have h2 := h.carry;have h3 : a i * b k ≤ 4294967295 * 4294967295 := Nat.mul_le_mul (by omega) (by omega)
 omega
theorem tm_step {a b f : Nat → Nat} {N n i k c : Nat} (ha : a i < 4294967296) (hb : b k < 4294967296) (hk : k < n) (hN : i + n < N) (h : TmI a b f N n i k c) :
 TmI a b (updF f (i + k) ((a i * b k + f (i + k) + c) % 4294967296)) N n i (k + 1) ((a i * b k + f (i + k) + c) / 4294967296) := by
 obtain ⟨b1,_⟩ := tm_bound ha hb h;refine ⟨?_,?_,?_,by omega⟩
 · have hu := valF_upd f (i + k) ((a i * b k + f (i + k) + c) % 4294967296) N
   rw [if_pos (by omega),if_pos (by omega)] at hu
   have hv := h.val
   rw [show i + (k + 1) = (i + k) + 1 by omega, Nat.pow_succ, valF]
   have hd := Nat.div_add_mod (a i * b k + f (i + k) + c) 4294967296;generalize (a i * b k + f (i + k) + c) % 4294967296 = r at *;generalize (a i * b k + f (i + k) + c) / 4294967296 = q at *
   rw [powU_add] at *
   generalize valF (updF f (i + k) r) N = V' at *;generalize valF f N = V at *;generalize valF b k = Bk at *;generalize valF a i * valF b n = X at *;generalize (4294967296 : Nat) ^ i = Pi at *;generalize (4294967296 : Nat) ^ k = Pk at *;generalize f (i + k) = F at *;generalize a i = ai at *;generalize b k = bk at *;have e : (4294967296 * q + r) * (Pi * Pk) = (ai * bk + F + c) * (Pi * Pk) := by rw [hd]
   grind
 · intro j
   unfold updF
   split
   · omega
   · exact h.small j
 · intro j hj
   unfold updF
   rw [if_neg (by omega)]
   exact h.none j hj
theorem tm_end {a b f : Nat → Nat} {N n i c : Nat} (hN : i + n < N) (h : TmI a b f N n i n c) : TmO a b (updF f (i + n) c) N n (i + 1) := by
 refine ⟨?_,?_,?_⟩
 · have hu := valF_upd f (i + n) c N
   rw [if_pos hN,if_pos hN,h.none (i + n) (Nat.le_refl _)] at hu;have hv := h.val
   rw [valF, Nat.add_mul]
   rw [Nat.zero_mul,Nat.add_zero] at hu
   rw [hu, hv]
   grind
 · intro j
   unfold updF
   split
   · exact h.carry
   · exact h.small j
 · intro j hj
   unfold updF
   rw [if_neg (by omega)]
   exact h.none j (by omega)
end Pg
namespace Go.Proofs.YtcbjmcnebmhgpaaGreat
open Go.RowKit Pg
def NatF (w : World) (B : Nat) (A : Option Addr) (n : Nat) (f : Nat → Nat) : Prop :=
 0 < n → ∃ b off,A = some ⟨b,off,none⟩ ∧ b < B ∧ ∀ k,k < n → w.cell? ⟨b,off + k,none⟩ = some (.int .u64 (f k))
theorem NatF.below {w w' : World} {B n : Nat} {A : Option Addr} {f : Nat → Nat} (h : NatF w B A n f) (hb : Below B w w') : NatF w' B A n f := fun hn => by
 obtain ⟨b,off,e,hlt,hc⟩ := h hn;exact ⟨b,off,e,hlt,fun k hk => (hb.cell (p := ⟨b,off + k,none⟩) hlt).trans (hc k hk)⟩
theorem NatF.up {w : World} {B B' n : Nat} {A : Option Addr} {f : Nat → Nat} (h : NatF w B A n f) (hB : B ≤ B') : NatF w B' A n f := fun hn => by
 obtain ⟨b,off,e,hlt,hc⟩ := h hn;exact ⟨b,off,e,by omega,hc⟩
theorem natF_block {w : World} {g : Nat} {t : TypeId} {cs : Array Value} {n : Nat} (f : Nat → Nat) (hg : Blk w g t cs) (hc : ∀ k,k < n → cs[k]? = some (.int .u64 (f k))) : NatF w w.heap.size (some ⟨g,0,none⟩) n f :=
 fun _ => ⟨g,0,rfl,hg.lt,fun k hk => by rw [Nat.zero_add,hg.cell];exact hc k hk⟩
def wordsF (f : Nat → Nat) (j : Nat) : Nat := if j % 2 = 0 then f (j / 2) % 4294967296 else f (j / 2) / 4294967296
def ncells (f : Nat → Nat) (n : Nat) : List Value := (List.range n).map fun j => .int .u64 (f j)
theorem ncells_at {f : Nat → Nat} {n k : Nat} (h : k < n) : (ncells f n)[k]? = some (.int .u64 (f k)) := by simp [ncells,h]
theorem ncells_two (f : Nat → Nat) (k : Nat) : ncells f (2 * (k + 1)) = ncells f (2 * k) ++ [.int .u64 (f (2 * k)),.int .u64 (f (2 * k + 1))] := by
 unfold ncells
 rw [show 2 * (k + 1) = 2 * k + 1 + 1 by omega,List.range_succ,List.range_succ]
 simp
theorem natF_own {w : World} {base : Nat} {e : TypeId} {v : Value} {n : Nat} {f : Nat → Nat} (h : w.ownsRow base e 1 v n (ncells f n)) :
 ∃ A c,v = .slice A n c ∧ NatF w w.heap.size A n f := by
 obtain ⟨h1,⟨rfl,rfl⟩ | ⟨g,cap,cur,rfl,hg,hh,hc⟩⟩ := h
 · exact ⟨none,0,rfl,fun h => absurd h (by omega)⟩
 · refine ⟨_,cap,rfl,fun hn => ⟨g,0,rfl,lt_of_block hh,fun k hk => ?_⟩⟩
   have hown : w.ownsRow base e 1 (.slice (some ⟨g,0,none⟩) n cap) n (ncells f n) := ⟨h1,.inr ⟨g,cap,cur,rfl,hg,hh,hc⟩⟩
   rw [Nat.zero_add, hown.cellAt k (by omega)]
   exact ncells_at hk
theorem Tryz.infoU64 : (Tryz.prog.info? 183).map (fun i => (i.zero,i.size,i.bytes)) = some (some (.int .u64 0),1,8) := by kernel_rfl
theorem two_at {w : World} {x y : Value} {t : TypeId} : ∀ (j : Nat) (v : Value),[x,y][j]? = some v → (w.alloc (.cells #[x,y] t)).drew.cell? ((⟨w.heap.size,0,none⟩ : Addr).add j) = some v := by
 intro j v hj
 match j,hj with
 | 0,hj => simp at hj;subst hj;simp [Addr.add]
 | 1,hj => simp at hj;subst hj;simp [Addr.add]
theorem two_one {x y : Nat} : ∀ v ∈ [Value.int .u64 x,.int .u64 y],v.oneCell' = true := by
 intro v hv;simp only [List.mem_cons,List.not_mem_nil,or_false] at hv
 rcases hv with rfl | rfl <;> rfl
theorem ret_intU {a b : Int} (h : a = b) : Ending.returned (.int .u64 a) = Ending.returned (.int .u64 b) := by rw [h]
theorem words_any (B n c : Nat) (A : Option Addr) (f : Nat → Nat) (w : World) (hl : NatF w B A n f) (hB : B ≤ w.heap.size) (hn : n ≤ 1000) (hf : ∀ k,k < n → f k < 18446744073709551616) :
 Calls Tryz.prog 180 #[.slice A n c] w (fun e w' => ∃ A' c',e = .returned (.slice A' (2 * n) c') ∧ NatF w' w'.heap.size A' (2 * n) (wordsF f) ∧ Below w.heap.size w w') := by
 have HFb := Lib.hid hf;clear hf;obtain ⟨i0,hi,iz0,iz1,iz2⟩ := info_parts Tryz.infoU64
 go_enter Tryz.func180,Tryz.ntmps180
 go_wp2
 go_loopw [3,4] (fun s i wr => ∃ k : Nat,k ≤ n ∧ i = .int .i64 k ∧ wr.ownsRow w.heap.size 183 1 s (2 * k) (ncells (wordsF f) (2 * k)) ∧ Below w.heap.size w wr) (fun _ i _ => n - (intOf i).toNat)
 case atStart => exact ⟨0,Nat.zero_le _,rfl,World.ownsRow_nil _ _ _ _,Below.refl _ _⟩
 case round =>
  obtain ⟨k,hk,rfl,hown,hb⟩ := hrel
  by_cases hlt : k < n
  · obtain ⟨b, off, rfl, hab, hc⟩ := (hl.below (hb.mono hB)) (by omega)
    have c0 := hc k hlt;clear hc;have hbs := hb.size;have hbw : b < wr.heap.size := by omega
    have hbw9 : b < w.heap.size := by omega
    have hk0 : (k : Int) < (n : Int) := by omega
    have hfk := HFb.out k hlt
    have HW : Hid (ncells (wordsF f) (2 * (k + 1)) = ncells (wordsF f) (2 * k) ++ [.int .u64 ((f k % 4294967296 : Nat) : Int),.int .u64 ((f k / 4294967296 : Nat) : Int)]) := by
     unfold Hid
     rw [ncells_two]
     unfold wordsF
     rw [if_pos (by omega), if_neg (by omega), show 2 * k / 2 = k by omega, show (2 * k + 1) / 2 = k by omega]
    obtain ⟨x,ex⟩ : ∃ x,f k = x := ⟨_,rfl⟩;rw [ex] at c0 hfk HW;have e1 := Mul64.maskN x hfk;have e2 := Mul64.divN x;obtain ⟨lo,elo⟩ : ∃ y,x % 4294967296 = y := ⟨_,rfl⟩;obtain ⟨hi',ehi⟩ : ∃ y,x / 4294967296 = y := ⟨_,rfl⟩;rw [elo] at e1 HW;rw [ehi] at e2 HW;clear elo ehi ex hfk;have hb5 : Below w.heap.size wr (wr.alloc (.cells #[.int .u64 lo,.int .u64 hi'] 183)) := Below.mono (B := wr.heap.size) bel (by omega)
    go_wp2_with fail;refine wp_region_belowB (w.heap.size) [0,1,2,3,4,5,6,7,8,9,10,11,12,13] (by kernel_rfl) (by kernel_rfl) (fun _ _ d _ _ h => by cases d <;> exact h) ?_
    simp only [List.map_cons, List.map_nil, ldz, lds, bare, gslot, lcz, lcs, Option.bind_some]
    repeat' ((try simp only [Act.put,lsi,lsz,lss]);first | (refine lexL_quiet (v := ?_) wantB_none rfl ?_ ?_;rotate_left;focus (intro wq hq;obtain ⟨hcq,hfq⟩ := bcellB hq;go_simp;try with_reducible rfl)) | (refine lexL_loud wantB_none rfl (fun K hK => ?_);(refine wp_append_own _ _ _ 226 rfl w.heap.size 183 i0 (.int .u64 0) 1 8 Tryz.underlying226 hi iz0 iz1 iz2 rfl (by decide) _ _ _ rfl (owns_drew (hown.alloc _)) ⟨wr.heap.size,0,none⟩ 2 2 [.int .u64 lo,.int .u64 hi'] rfl rfl ?_ ?_ ?_ ?_ ?_ ?_);(focus (exact two_at));(focus (exact two_one));(focus (unfold maxLen;omega));(focus omega);(focus (simp;omega));intro v' w2 hown' hgrow _;have hlt' := hown.lt;have hb2 : Below w.heap.size w w2 := (Below.grown (w := (wr.alloc _).drew) bel hgrow (by simp;omega) (fun j e => by have := (hlt' j e).1;omega));have hb3 : Below w.heap.size ((wr.alloc (.cells #[.int .u64 lo,.int .u64 hi'] 183)).drew) w2 := (Below.grown (w := (wr.alloc (.cells #[.int .u64 lo,.int .u64 hi'] 183)).drew) (Below.refl _ _) hgrow (by simp;omega) (fun j e => (hlt' j e).1));have hb4 : Below w.heap.size wr w2 := (Below.trans bel hb3);refine hK.out _ _ (by first | with_reducible exact swapB1 | with_reducible exact Below.drew swapB1 | exact bel) ?_;clear hK K) | (refine lexL_loud wantB_none rfl (fun K hK => ?_);go_simp;((first | fail  | skip) <;> (refine hK.out _ _ (by first | with_reducible exact swapB1 | with_reducible exact Below.drew swapB1 | exact bel) ?_;clear hK K))))
    (all_goals try simp only [Act.put,lsi,lsz,lss]);all_goals (refine lexL_nil ?_)
    have hown2 : w2.ownsRow w.heap.size 183 1 v' (2 * (k + 1)) (ncells (wordsF f) (2 * (k + 1))) := by rw [HW.out];exact hown'
    clear hown' hgrow hown hlt' hb3 hb4 hb5 c0 HW;go_wp2
    go_roundw
    case rel => exact ⟨k + 1, by omega, by go_num, hown2, hb2⟩
    case measure => simp [intOf];omega
  · have hkn : k = n := by omega
    subst hkn;obtain ⟨A2,c2,rfl,hfr⟩ := natF_own hown;have HR := Lib.hid hfr;clear hown hfr HFb;go_wp2;go_ret;exact ⟨A2,c2,rfl,HR.out,hb⟩
theorem join_any (B n c k : Nat) (A : Option Addr) (f : Nat → Nat) (w : World) (hl : NatF w B A n f) (hB : B ≤ w.heap.size) (hn : n ≤ 1000) (hk : 2 * k + 1 < n) (hf : ∀ k,k < n → f k < 4294967296) :
 Calls Tryz.prog 181 #[.slice A n c,.int .i64 k] w (Ret w (.int .u64 ((f (2 * k) + f (2 * k + 1) * 4294967296 : Nat) : Int))) := by
 obtain ⟨b,off,rfl,hab,hc⟩ := hl (by omega)
 have c0 := hc (2 * k) (by omega)
 have c1 := hc (2 * k + 1) hk;have x0 := hf (2 * k) (by omega)
 have x1 := hf (2 * k + 1) hk;have hbw : b < w.heap.size := by omega
 obtain ⟨m,em⟩ : ∃ m,2 * k = m := ⟨_,rfl⟩
 rw [em] at c0 c1 x0 x1 hk ⊢
 have k1 : IntKind.i64.wrap (2 * (k : Int)) = (m : Int) := by rw [IntKind.wrap_i64];omega
 have k2 : IntKind.i64.wrap ((m : Int) + 1) = (m : Int) + 1 := by rw [IntKind.wrap_i64];omega
 have k3 : (m : Int) < (n : Int) := by omega
 have k5 : m < n := by omega
 have k7 : (0 : Int) ≤ (m : Int) + 1 := by omega
 have k6 : m + 1 < n := by omega
 have k4 : (m : Int) + 1 < (n : Int) := by omega
 obtain ⟨u,eu⟩ : ∃ u,f m = u := ⟨_,rfl⟩;obtain ⟨v,ev⟩ : ∃ u,f (m + 1) = u := ⟨_,rfl⟩;rw [eu] at c0 x0;rw [ev] at c1 x1
 rw [eu,ev]
 have q1 : IntKind.u64.wrap ((v : Int) * 4294967296) = (v : Int) * 4294967296 := by rw [IntKind.wrap_u64];omega
 have q2 : bits .or .u64 (u : Int) ((v : Int) * 4294967296) = ((u + v * 4294967296 : Nat) : Int) := by
  rw [u64_or32 (u : Int) ((v : Int) * 4294967296) (by omega) (by omega) (by omega) (by omega) (by omega)]
  omega
 have Q2 := Lib.hid q2;clear q2 hc hf hl
 go_enter Tryz.func181,Tryz.ntmps181
 go_wp2_with fail;refine wp_region_belowI (by kernel_rfl) (by kernel_rfl) (fun _ _ d _ _ h => by cases d <;> exact h) ?_
 simp only [List.map_cons,List.map_nil,ldz,lds,bare,gslot,lcz,lcs,Option.bind_some]
 repeat' ((try simp only [Act.put,lsi,lsz,lss]);first | (refine lexL_quiet (v := ?_) wantB_none rfl ?_ ?_;rotate_left;focus (intro wq hq;obtain ⟨hcq,hfq⟩ := bcell hq;go_simp;try with_reducible rfl)) | (refine lexL_loud wantB_none rfl (fun K hK => ?_);go_simp;((first | fail | skip) <;> (refine hK.out _ _ bel ?_;clear hK K))))
 (all_goals try simp only [Act.put,lsi,lsz,lss]);all_goals (refine lexL_nil ?_)
 go_wp2;go_ret;exact ⟨ret_intU Q2.out,bel⟩
theorem made_cells (N : Nat) : madeCells #[Value.int .u64 0] N = (ncells (fun _ => 0) N).toArray := by
 apply Array.ext_getElem?
 intro j
 by_cases hj : j < N
 · simp [madeCells,ncells,hj,Nat.mod_one]
 · simp [madeCells,ncells,hj]
theorem ncells_set (f : Nat → Nat) (N j v : Nat) : (ncells f N).toArray.setIfInBounds j (.int .u64 v) = (ncells (updF f j v) N).toArray := by
 apply Array.ext_getElem?
 intro k
 rw [Array.getElem?_setIfInBounds]
 by_cases hk : k < N
 · by_cases e : j = k
   · subst e
     simp [ncells, hk, updF]
   · have e' : ¬ k = j := fun h => e h.symm
     simp [ncells, hk, updF, e, e']
 · by_cases e : j = k
   · subst e
     simp [ncells, hk]
   · simp [ncells, hk, e]
theorem times_any (B n c n' c' : Nat) (A A' : Option Addr) (a b : Nat → Nat) (w : World) (ha : NatF w B A n a) (hb : NatF w B A' n' b) (hB : B ≤ w.heap.size) (hn : 0 < n) (hn2 : n ≤ 1000) (hn' : 0 < n') (hn2' : n' ≤ 1000) (sa : ∀ k,k < n → a k < 4294967296) (sb : ∀ k,k < n' → b k < 4294967296) :
 Calls Tryz.prog 179 #[.slice A n c,.slice A' n' c'] w (fun e w' => ∃ g c2 f,e = .returned (.slice (some ⟨g,0,none⟩) (n + n') c2) ∧ NatF w' w'.heap.size (some ⟨g,0,none⟩) (n + n') f ∧ valF f (n + n') = valF a n * valF b n' ∧ (∀ j,f j < 4294967296) ∧ Below w.heap.size w w') := by
 obtain ⟨N,hN⟩ : ∃ N,n + n' = N := ⟨_,rfl⟩;have eN : (n : Int) + (n' : Int) = (N : Int) := by omega
 rw [hN]
 have HMk : ∀ w,(Instr.makeSlice 226 (.int .i64 (N : Int)) (.int .i64 (N : Int))).run Tryz.prog w = .ok (.slice (some ⟨w.heap.size,0,none⟩) N N) (w.alloc (.cells (madeCells #[.int .u64 0] N) 183)) := fun w =>
  run_make_row' _ _ (.int .u64 0) 8 Tryz.underlying226 Tryz.infoU64 rfl .i64 .i64 N (by omega) (by omega) w
 have HSa := Lib.hid sa;have HSb := Lib.hid sb;clear sa sb;obtain ⟨ba,oa,rfl,hba,hca⟩ := ha hn;obtain ⟨bb,ob,rfl,hbb,hcb⟩ := hb hn';have HCa := Lib.hid hca;have HCb := Lib.hid hcb;clear hca hcb ha hb
 go_enter Tryz.func179,Tryz.ntmps179
 go_wp2_with fail
 have hG0 : Blk (w.alloc (.cells (madeCells #[.int .u64 0] N) 183)) w.heap.size 183 (ncells (fun _ => 0) N).toArray := by
  rw [made_cells]
  exact Blk.new rfl rfl
 have hb0 : Below w.heap.size w (w.alloc (.cells (madeCells #[.int .u64 0] N) 183)) := bel
 go_loopw [6] (fun i wr => ∃ (k : Nat) (f : Nat → Nat),k ≤ n ∧ i = .int .i64 k ∧ Blk wr w.heap.size 183 (ncells f N).toArray ∧ Hid (TmO a b f N n' k) ∧ Below w.heap.size w wr) (fun i _ => n - (intOf i).toNat)
 case atStart => exact ⟨0,fun _ => 0,Nat.zero_le _,rfl,hG0,tm_start a b N n',hb0⟩
 case round =>
  clear hG0 hb0;obtain ⟨i,f0,hi,rfl,hG,hO,hb⟩ := hrel
  by_cases hlt : i < n
  · have hi0 : (i : Int) < (n : Int) := by omega
    go_wp2_with fail
    go_loopw [7, 8] (fun cv kv wr => ∃ (k c : Nat) (f : Nat → Nat), k ≤ n' ∧ kv = .int .i64 k ∧ cv = .int .u64 c ∧ Blk wr w.heap.size 183 (ncells f N).toArray ∧ Hid (TmI a b f N n' i k c) ∧ Below w.heap.size w wr) (fun _ kv _ => n' - (intOf kv).toNat)
    case atStart => exact ⟨0, 0, f0, Nat.zero_le _, rfl, rfl, hG, tm_row hO.out, hb⟩
    case round =>
     clear hG hO hb;obtain ⟨k,c,f,hk,rfl,rfl,hG,hI,hb⟩ := hrel;have lG := hG.lt;have fG := hG.frozen
     by_cases hlt2 : k < n'
     · have hk0 : (k : Int) < (n' : Int) := by omega
       have haw : ba < w.heap.size := by omega
       have hbw : bb < w.heap.size := by omega
       have c0 := (hb.cell (p := ⟨ba,oa + i,none⟩) haw).trans (HCa.out i hlt);have c1 := (hb.cell (p := ⟨bb,ob + k,none⟩) hbw).trans (HCb.out k hlt2);have haw2 : ba < wr.heap.size := by omega
       have hbw2 : bb < wr.heap.size := by omega
       have hne1 : ba ≠ w.heap.size := by omega
       have hne2 : bb ≠ w.heap.size := by omega
       have hsN : i + k < N := by omega
       have c2 := hG.cell (i + k);rw [lta,ncells_at hsN] at c2;have hst := tm_step (HSa.out i hlt) (HSb.out k hlt2) hlt2 (show i + n' < N by omega) hI.out
       obtain ⟨t1,t2,t3⟩ := tm_bound (HSa.out i hlt) (HSb.out k hlt2) hI.out;obtain ⟨x,ex⟩ : ∃ z,a i = z := ⟨_,rfl⟩;obtain ⟨y,ey⟩ : ∃ z,b k = z := ⟨_,rfl⟩;obtain ⟨z,ez⟩ : ∃ u,f (i + k) = u := ⟨_,rfl⟩;rw [ex] at c0 hst t1 t2 t3;rw [ey] at c1 hst t1 t2 t3;rw [ez] at c2 hst t1 t3;obtain ⟨s,es⟩ : ∃ u,i + k = u := ⟨_,rfl⟩;rw [es] at c2 hst hsN;obtain ⟨P,eP⟩ : ∃ u,x * y = u := ⟨_,rfl⟩;rw [eP] at hst t1 t2 t3;obtain ⟨Q,eQ⟩ : ∃ u,P + z = u := ⟨_,rfl⟩;rw [eQ] at hst t1 t3;obtain ⟨V,eV⟩ : ∃ u,Q + c = u := ⟨_,rfl⟩;rw [eV] at hst t1;have w1 : IntKind.u64.wrap ((x : Int) * (y : Int)) = (P : Int) := by rw [← Int.natCast_mul,eP];exact wrap_nat _ t2
       have w2 : IntKind.u64.wrap ((P : Int) + (z : Int)) = (Q : Int) := by rw [← Int.natCast_add,eQ];exact wrap_nat _ t3
       have w3 : IntKind.u64.wrap ((Q : Int) + (c : Int)) = (V : Int) := by rw [← Int.natCast_add,eV];exact wrap_nat _ t1
       have w4 : IntKind.i64.wrap ((i : Int) + (k : Int)) = (s : Int) := by rw [IntKind.wrap_i64];omega
       have w5 := Mul64.maskN V t1;have w6 := Mul64.divN V;have hs0 : (s : Int) < (N : Int) := by omega
       obtain ⟨lo,elo⟩ : ∃ u,V % 4294967296 = u := ⟨_,rfl⟩;obtain ⟨hi',ehi⟩ : ∃ u,V / 4294967296 = u := ⟨_,rfl⟩;rw [elo] at hst w5;rw [ehi] at hst w6;have HST := Lib.hid hst;clear hst ex ey ez es eP eQ eV elo ehi t1 t2 t3;go_wp2_with fail;refine wp_region_belowI (by kernel_rfl) (by kernel_rfl) (fun _ _ d _ _ h => by cases d <;> exact h) ?_
       simp only [List.map_cons, List.map_nil, ldz, lds, bare, gslot, lcz, lcs, Option.bind_some]
       repeat' ((try simp only [Act.put,lsi,lsz,lss]);first | (refine lexL_quiet (v := ?_) wantB_none rfl ?_ ?_;rotate_left;focus (intro wq hq;obtain ⟨hcq,hfq⟩ := bcell hq;go_simp;try with_reducible rfl)) | (refine lexL_loud wantB_none rfl (fun K hK => ?_);go_simp;((first | fail | skip) <;> (refine hK.out _ _ bel ?_;clear hK K))))
       (all_goals try simp only [Act.put,lsi,lsz,lss]);all_goals (refine lexL_nil ?_)
       go_wp2
       go_roundw
       case rel => exact ⟨k + 1, hi', updF f s lo, by omega, by go_num, rfl, (hG.set_ s _).eq_ (ncells_set f N s lo), HST.out, bel⟩
       case measure => simp [intOf];omega
     · have hkn : k = n' := by omega
       subst hkn;have hend := tm_end (show i + k < N by omega) hI.out
       have hsN : i + k < N := by omega
       obtain ⟨s,es⟩ : ∃ u,i + k = u := ⟨_,rfl⟩;rw [es] at hend hsN;have w4 : IntKind.i64.wrap ((i : Int) + (k : Int)) = (s : Int) := by rw [IntKind.wrap_i64];omega
       have hs0 : (s : Int) < (N : Int) := by omega
       have c2 := hG.cell s;rw [lta,ncells_at hsN] at c2;have HE := Lib.hid hend;clear hend es;go_wp2
       go_roundw
       case rel => exact ⟨i + 1, updF f s c, by omega, by go_num, (hG.set_ s _).eq_ (ncells_set f N s c), HE.out, bel⟩
       case measure => simp [intOf];omega
  · have hin : i = n := by omega
    subst hin;have HV := Lib.hid hO.out.val;have HSm := Lib.hid hO.out.small;have HNf : Hid (NatF wr wr.heap.size (some ⟨w.heap.size,0,none⟩) N f0) := natF_block f0 hG (fun k hk => by rw [lta];exact ncells_at hk)
    clear hO hG;go_wp2;go_ret;exact ⟨_,_,f0,rfl,HNf.out,HV.out,HSm.out,hb⟩
theorem words1 (x g : Nat) (w : World) (hx : x < 18446744073709551616) (hg : w.heap[g]? = some (.cells #[.int .u64 x] 183 (0,0))) :
 Calls Tryz.prog 180 #[.slice (some ⟨g,0,none⟩) 1 1] w (fun e w' => ∃ A' c',e = .returned (.slice A' 2 c') ∧ NatF w' w'.heap.size A' 2 (wordsF fun _ => x) ∧ Below w.heap.size w w') :=
 words_any w.heap.size 1 1 _ (fun _ => x) w (natF_block _ hg (by intro k hk;match k,hk with | 0,_ => rfl)) (Nat.le_refl _) (by decide) (fun _ _ => hx)
theorem wordsF_small {f : Nat → Nat} {n : Nat} (h : ∀ k,k < n → f k < 18446744073709551616) : ∀ j,j < 2 * n → wordsF f j < 4294967296 := by
 intro j hj;unfold wordsF;have := h (j / 2) (by omega)
 split <;> omega
theorem wordsF_val1 (x : Nat) : valF (wordsF fun _ => x) 2 = x := by
 simp [valF,wordsF]
 omega
theorem join_lo (B n c : Nat) (A : Option Addr) (f : Nat → Nat) (w : World) (hl : NatF w B A n f) (hB : B ≤ w.heap.size) (hn : n ≤ 1000) (hk : 1 < n) (hf : ∀ k,k < n → f k < 4294967296) :
 Calls Tryz.prog 181 #[.slice A n c,.int .i64 0] w (Ret w (.int .u64 ((f 0 + f 1 * 4294967296 : Nat) : Int))) := join_any B n c 0 A f w hl hB hn hk hf
theorem join_mid (B n c : Nat) (A : Option Addr) (f : Nat → Nat) (w : World) (hl : NatF w B A n f) (hB : B ≤ w.heap.size) (hn : n ≤ 1000) (hk : 3 < n) (hf : ∀ k,k < n → f k < 4294967296) :
 Calls Tryz.prog 181 #[.slice A n c,.int .i64 1] w (Ret w (.int .u64 ((f 2 + f 3 * 4294967296 : Nat) : Int))) := join_any B n c 1 A f w hl hB hn hk hf
theorem val4 {f : Nat → Nat} {v : Nat} (h : valF f 4 = v) (hs : ∀ j,f j < 4294967296) : f 0 + f 1 * 4294967296 = v % 18446744073709551616 ∧ f 2 + f 3 * 4294967296 = v / 18446744073709551616 := by
 simp only [valF] at h;have h0 := hs 0;have h1 := hs 1;have h2 := hs 2;have h3 := hs 3
 omega
theorem rMul_any (a b : Nat) (ha : a < 18446744073709551616) (hb : b < 18446744073709551616) (w : World) :
 Calls Tryz.prog 178 #[.int .u64 a,.int .u64 b] w (Ret w (uV (a * b))) := by
 have HA := Lib.hid (fun w g hg => words1 a g w ha hg)
 have HB := Lib.hid (fun w g hg => words1 b g w hb hg)
 have HSa := Lib.hid (wordsF_small (f := fun _ => a) (n := 1) (fun _ _ => ha))
 have HSb := Lib.hid (wordsF_small (f := fun _ => b) (n := 1) (fun _ _ => hb))
 simp only [uV]
 obtain ⟨Hi,eH⟩ : ∃ z,a * b / 18446744073709551616 = z := ⟨_,rfl⟩;obtain ⟨Lo,eL⟩ : ∃ z,a * b % 18446744073709551616 = z := ⟨_,rfl⟩
 rw [eH,eL]
 have EH := Lib.hid eH;have EL := Lib.hid eL;clear eH eL ha hb
 go_enter Tryz.func178,Tryz.ntmps178
 go_wp2_with (first | (go_at_call 180;have _h := hza;refine (HB.out _ _ ?_).mono ?_;exact block_last (by simp);rintro e wb ⟨Ab,cb,rfl,hNb,hbb⟩;have hzb := hbb.size;(try simp at hzb)) | (go_at_call 180;refine (HA.out _ _ ?_).mono ?_;exact block_last (by simp);rintro e wa ⟨Aa,ca,rfl,hNa,hba⟩;have hza := hba.size;(try simp at hza)) | (go_at_call 179;refine (times_any wb.heap.size 2 ca 2 cb Aa Ab _ _ wb ((hNa.below bel).up (by omega)) hNb (Nat.le_refl _) (by decide) (by decide) (by decide) (by decide) HSa.out HSb.out).mono ?_;rintro e wt ⟨gt,ct,f,rfl,hNt,hV,hS,hbt⟩;have hzt := hbt.size))
 rw [wordsF_val1,wordsF_val1] at hV;obtain ⟨j0,j1⟩ := val4 hV hS;rw [EL.out] at j0;rw [EH.out] at j1
 have HJ1 : Hid (∀ w',Below wt.heap.size wt w' → Calls Tryz.prog 181 #[.slice (some ⟨gt,0,none⟩) 4 ct,.int .i64 1] w' (Ret w' (.int .u64 Hi))) := fun w' hb => by
  have h := join_mid wt.heap.size 4 ct _ f w' (hNt.below hb) hb.size (by decide) (by decide) (fun k _ => hS k)
  rw [j1] at h;exact h
 have HJ0 : Hid (∀ w',Below wt.heap.size wt w' → Calls Tryz.prog 181 #[.slice (some ⟨gt,0,none⟩) 4 ct,.int .i64 0] w' (Ret w' (.int .u64 Lo))) := fun w' hb => by
  have h := join_lo wt.heap.size 4 ct _ f w' (hNt.below hb) hb.size (by decide) (by decide) (fun k _ => hS k)
  rw [j0] at h;exact h
 have hlt : w.heap.size < wt.heap.size := by omega
 have hR : Blk wt w.heap.size 213 #[.int .u64 0,.int .u64 0] := blkA;have hbw : Below w.heap.size w wt := bel;have cR := hR.cell;have fR := hR.frozen;clear hba hbb hbt j0 j1 hV hS hNt hNa hNb HA HB HSa HSb
 go_wp2_with (first | (go_at_call 181;(with_reducible refine (HJ1.out _ ?_).mono ?_);exact bel;rintro e wx ⟨rfl,hbx⟩;obtain ⟨hcx,hfx⟩ := bcell hbx;have hzx := hbx.size;(try simp at hzx);have hyx0 : w.heap.size < wx.heap.size := (by omega)) | (go_at_call 181;(with_reducible refine (HJ0.out _ ?_).mono ?_);exact bel;rintro e wy ⟨rfl,hby⟩;obtain ⟨hcy,hfy⟩ := bcell hby;have hzy := hby.size;(try simp at hzy);have hyy0 : w.heap.size < wy.heap.size := (by omega)))
 refine post_gen2 (R := fun w2 => Blk w2 (w.heap.size) 213 #[.int .u64 Hi,.int .u64 Lo] ∧ Below w.heap.size w w2) ⟨?_,bel⟩ ?_
 · repeat (first | with_reducible exact two_put (x := .int .u64 0) (y := .int .u64 0) blkA | (with_reducible refine Blk.new ?_ rfl;focus (simp;done)) | with_reducible refine Blk.alloc ?_ _ | with_reducible refine Blk.drew ?_)
 rintro w2 ⟨HR,hb2⟩;have r0 := HR.cell 0;have r1 := HR.cell 1;simp only [lta,lcz,lcs] at r0 r1;exact bodyPost_ret (v := .agg #[.int .u64 Hi,.int .u64 Lo]) (by simp [results,Tryz.results178,go_sem,r0,r1]) rfl ⟨rfl,hb2⟩
theorem rCmpU_any (a b : Nat) (ha : a < 340282366920938463463374607431768211456) (hb : b < 340282366920938463463374607431768211456) (w : World) :
 Calls Tryz.prog 177 #[uV a,uV b] w (Ret w (.int .i64 (sgn ((a : Int) - (b : Int))))) := by
 have ea : a = a / 18446744073709551616 * 18446744073709551616 + a % 18446744073709551616 := by omega
 have eb : b = b / 18446744073709551616 * 18446744073709551616 + b % 18446744073709551616 := by omega
 have h1 : a % 18446744073709551616 < 18446744073709551616 := by omega
 have h2 : b % 18446744073709551616 < 18446744073709551616 := by omega
 simp only [uV]
 obtain ⟨x1,e1⟩ : ∃ z,a / 18446744073709551616 = z := ⟨_,rfl⟩;obtain ⟨x0,e0⟩ : ∃ z,a % 18446744073709551616 = z := ⟨_,rfl⟩;obtain ⟨y1,e3⟩ : ∃ z,b / 18446744073709551616 = z := ⟨_,rfl⟩;obtain ⟨y0,e2⟩ : ∃ z,b % 18446744073709551616 = z := ⟨_,rfl⟩;rw [e1,e0] at ea;rw [e3,e2] at eb;rw [e0] at h1;rw [e2] at h2
 rw [e1,e0,e3,e2]
 clear e0 e1 e2 e3 ha hb
 rcases Nat.lt_trichotomy a b with h | h | h
 · have H : Hid (sgn ((a : Int) - (b : Int)) = -1) := by unfold Hid sgn;rw [if_pos (by omega)]
   rw [H.out]
   rcases Nat.lt_or_ge x1 y1 with hh | hh
   · have k1 : (x1 : Int) < y1 := by omega
     clear h ea eb
     go_enter Tryz.func177, Tryz.ntmps177
     go_wp2;go_ret;exact ⟨rfl,bel⟩
   · have k1 : ¬ (x1 : Int) < y1 := by omega
     have k2 : x1 = y1 := by omega
     have k3 : (x0 : Int) < y0 := by omega
     clear h ea eb hh k1;subst k2
     go_enter Tryz.func177, Tryz.ntmps177
     go_wp2;go_ret;exact ⟨rfl,bel⟩
 · have H : Hid (sgn ((a : Int) - (b : Int)) = 0) := by subst h;unfold Hid sgn;rw [if_neg (by omega),if_neg (by omega)]
   rw [H.out]
   have k1 : x1 = y1 := by omega
   have k2 : x0 = y0 := by omega
   clear h ea eb H;subst k1;subst k2
   go_enter Tryz.func177, Tryz.ntmps177
   go_wp2;go_ret;exact ⟨rfl,bel⟩
 · have H : Hid (sgn ((a : Int) - (b : Int)) = 1) := by unfold Hid sgn;rw [if_neg (by omega),if_pos (by omega)]
   rw [H.out]
   have k1 : ¬ (x1 : Int) < y1 := by omega
   by_cases hh : x1 = y1
   · have k3 : ¬ (x0 : Int) < y0 := by omega
     have k4 : ¬ x0 = y0 := by omega
     clear h ea eb k1 H;subst hh
     go_enter Tryz.func177, Tryz.ntmps177
     go_wp2;go_ret;exact ⟨rfl,bel⟩
   · clear h ea eb H
     go_enter Tryz.func177, Tryz.ntmps177
     go_wp2;go_ret;exact ⟨rfl,bel⟩
end Go.Proofs.YtcbjmcnebmhgpaaGreat
