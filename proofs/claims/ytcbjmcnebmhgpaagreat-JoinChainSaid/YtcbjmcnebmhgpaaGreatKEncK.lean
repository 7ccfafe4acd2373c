/-
  Contracts of slices.Grow and slices.Concat at bytes;rows of rows of bytes.
  Contracts of the keys of boxes: the program's, the reference's.
  The contract of opclass.unkey: which box a key is of.
  Contracts: rows of bytes held against each other;fault.New;the program's Unkey.
  Errors of any depth: Faults around Faults around a number;errors.Is,Code and Is at them;fault.New.
  Own rows of keys: built by append, each key a row of bytes of its own.
-/
import Derived.Test.YtcbjmcnebmhgpaaGreatKEncA
import Derived.Lib.AppendZeros
import Derived.Laws.AppendOwnNone
import Derived.Test.YtcbjmcnebmhgpaaGreatKAlloc
import Derived.Test.YtcbjmcnebmhgpaaGreatKLex
import Derived.Test.YtcbjmcnebmhgpaaGreatKRel1
import Derived.LaidEql
import Derived.Stop.Asserts
import Derived.Lib.IfaceEq
import Derived.RowKitTokens
import Derived.Test.YtcbjmcnebmhgpaaGreatKRef3
set_option linter.unusedVariables false
set_option linter.unusedSimpArgs false
set_option maxHeartbeats 4000000
set_option maxRecDepth 20000
namespace Go.Proofs.YtcbjmcnebmhgpaaGreat
open Go.RowKit Pg
theorem ownB_below {w w' : World} {base : Nat} {e : TypeId} {size : Nat} {v : Value} {n : Nat} {xs : List Value} (h : w.ownsRow base e size v n xs) (hb : Below w.heap.size w w') : w'.ownsRow base e size v n xs := by
 obtain ⟨h1,h2 | ⟨g,cap,cur,hv,hg,hh,r⟩⟩ := h
 · exact ⟨h1,.inl h2⟩
 · exact ⟨h1,.inr ⟨g,cap,cur,hv,hg,(hb.block g (lt_of_block hh)).trans hh,r⟩⟩
theorem ownB_base {w : World} {base base' : Nat} {e : TypeId} {size : Nat} {v : Value} {n : Nat} {xs : List Value} (h : w.ownsRow base e size v n xs) (hb : base' ≤ base) : w.ownsRow base' e size v n xs := by
 obtain ⟨h1,h2 | ⟨g,cap,cur,hv,hg,hh,r⟩⟩ := h
 · exact ⟨h1,.inl h2⟩
 · exact ⟨h1,.inr ⟨g,cap,cur,hv,Nat.le_trans hb hg,hh,r⟩⟩
def RbsAt (w : World) (B : Nat) (A : Option Addr) (m : Nat) (L : List (List Nat)) : Prop :=
 L.length = m ∧ (0 < m → ∃ b off,A = some ⟨b,off,none⟩ ∧ b < B ∧ ∀ k l,L[k]? = some l → ∃ A' n c,w.cell? ⟨b,off + k,none⟩ = some (.slice A' n c) ∧ BysAt w B A' n l ∧ (A' = none → c = 0) ∧ n ≤ c)
theorem RbsAt.keep {w w' : World} {B m : Nat} {A : Option Addr} {L : List (List Nat)} (h : RbsAt w B A m L) (hk : ∀ p : Addr,p.block < B → w'.cell? p = w.cell? p) : RbsAt w' B A m L :=
 ⟨h.1,fun hn => by
  obtain ⟨b,off,e,hb,hc⟩ := h.2 hn;refine ⟨b,off,e,hb,fun k l hl => ?_⟩
  obtain ⟨A',n,c,h1,h2,h3⟩ := hc k l hl
  exact ⟨A',n,c,(hk _ hb).trans h1,h2.keep hk,h3⟩⟩
theorem RbsAt.below {w w' : World} {B m : Nat} {A : Option Addr} {L : List (List Nat)} (h : RbsAt w B A m L) (hb : Below B w w') : RbsAt w' B A m L := h.keep fun _ hp => hb.cell hp
theorem RbsAt.tr {W w1 : World} {B m : Nat} {A : Option Addr} {L : List (List Nat)} (h : RbsAt W B A m L) (hb : Below W.heap.size W w1) (hB : B ≤ W.heap.size) : RbsAt w1 B A m L := h.below (hb.mono hB)
theorem RbsAt.at_ {w : World} {B m : Nat} {A : Option Addr} {L : List (List Nat)} (h : RbsAt w B A m L) {k : Nat} (hk : k < m) :
 ∃ b off A' n c,A = some ⟨b,off,none⟩ ∧ b < B ∧ w.cell? ⟨b,off + k,none⟩ = some (.slice A' n c) ∧ BysAt w B A' n (L.getD k []) ∧ L[k]? = some (L.getD k []) ∧ (A' = none → c = 0) ∧ n ≤ c := by
 obtain ⟨b,off,e,hb,hc⟩ := h.2 (by omega)
 have hl : k < L.length := by rw [h.1];exact hk
 have he : L[k]? = some (L.getD k []) := by rw [List.getD_eq_getElem?_getD,List.getElem?_eq_getElem hl];rfl
 obtain ⟨A',n,c,h1,h2,h3⟩ := hc k _ he;exact ⟨b,off,A',n,c,e,hb,h1,h2,he,h3⟩
theorem BysAt.news {w : World} {B n : Nat} {ad : Addr} {l : List Nat} (h : BysAt w B (some ad) n l) (hn : 0 < n) : ∀ (j : Nat) (u : Value),(ycells l)[j]? = some u → w.cell? (ad.add j) = some u := by
 obtain ⟨b,off,e,hb,hc⟩ := h.2 hn;injection e with e
 subst e;intro j u hu;have hp : (⟨b,off,none⟩ : Addr).add j = ⟨b,off + j,none⟩ := by unfold Addr.add;split <;> simp_all
 unfold ycells at hu;rw [List.getElem?_map] at hu
 cases hl : l[j]? with
 | none => rw [hl] at hu;cases hu
 | some c =>
   rw [hl] at hu;simp only [Option.map_some,Option.some.injEq] at hu;subst hu
   rw [hp]
   exact hc j c hl
theorem ycells_one (l : List Nat) : ∀ u ∈ ycells l,u.oneCell' = true := by
 intro u hu;unfold ycells at hu;rw [List.mem_map] at hu;obtain ⟨c,_,rfl⟩ := hu
 rfl
theorem bys_of_own2 {w : World} {base : Nat} {e : TypeId} {v : Value} {n : Nat} {l : List Nat} (h : w.ownsRow base e 1 v n (ycells l)) :
 ∃ A c,v = .slice A n c ∧ BysAt w w.heap.size A n l ∧ l.length = n ∧ (A = none → c = 0) ∧ n ≤ c := by
 obtain ⟨A,c,rfl,h1,h2⟩ := bys_of_own h;obtain ⟨_,⟨h3,_⟩ | ⟨g,cap,cur,h3,_,_,h4,_⟩⟩ := h
 · injection h3 with h5 h6 h7
   subst h5 h6 h7;exact ⟨none,_,rfl,h1,h2,fun _ => rfl,Nat.le_refl _⟩
 · injection h3 with h5 h6 h7
   subst h5 h7;exact ⟨_,_,rfl,h1,h2,(fun e => by cases e),h4⟩
theorem own_pos {w : World} {base n : Nat} {e : TypeId} {v : Value} {l : List Nat} (h : w.ownsRow base e 1 v n (ycells l)) (hn : 0 < n) :
 ∃ g c,v = .slice (some ⟨g,0,none⟩) n c ∧ (∀ (j : Nat) (u : Value),(ycells l)[j]? = some u → w.cell? ((⟨g,0,none⟩ : Addr).add j) = some u) ∧ l.length = n ∧ g < w.heap.size := by
 obtain ⟨A,c,rfl,hB,hl⟩ := bys_of_own h;obtain ⟨b,off,e1,hb,hc⟩ := hB.2 hn;subst e1;obtain ⟨_,⟨h3,_⟩ | ⟨g,cap,cur,h3,_⟩⟩ := h
 · cases h3
 · injection h3 with h4 h5 h6
   injection h4 with h4
   injection h4 with h4 h7
   subst h4 h7;exact ⟨b,c,rfl,hB.news hn,hl,hb⟩
theorem rkey_any (a b c d : Int) (h : inBx ⟨⟨a,b⟩,⟨c,d⟩⟩) (w : World) : Calls Tryz.prog 162 #[bxV a b c d] w (RetB w (keyL ⟨⟨a,b⟩,⟨c,d⟩⟩)) := by
 obtain ⟨ha,hb,hc,hd⟩ := h
 simp only at ha hb hc hd
 obtain ⟨i0,hi,hz0,hz1,hz2⟩ := info_parts Tryz.infoByte;have hK : keyL ⟨⟨a,b⟩,⟨c,d⟩⟩ = sint a ++ sint b ++ sint c ++ sint d := by simp [keyL]
 obtain ⟨K,eK⟩ : ∃ K,keyL ⟨⟨a,b⟩,⟨c,d⟩⟩ = K := ⟨_,rfl⟩
 rw [eK] at hK ⊢
 clear eK;obtain ⟨a1,a2⟩ := sint_len ha;obtain ⟨b1,b2⟩ := sint_len hb;obtain ⟨c1,c2⟩ := sint_len hc;obtain ⟨d1,d2⟩ := sint_len hd;have HA := Lib.hid (rsigned_any a ha);have HB := Lib.hid (rsigned_any b hb);have HC := Lib.hid (rsigned_any c hc);have HD := Lib.hid (rsigned_any d hd);clear ha hb hc hd;generalize sint a = la at *;generalize sint b = lb at *;generalize sint c = lc at *;generalize sint d = ld at *;have HK := Lib.hid hK;clear hK
 go_enter Tryz.func162,Tryz.ntmps162
 go_wp2_with fail;refine wp_genE (fun W0 => Below w.heap.size w W0 ∧ Blk W0 w.heap.size 73 #[.int .i64 a,.int .i64 b,.int .i64 c,.int .i64 d] ∧ W0.heap.size = w.heap.size + 1) ⟨bel,blkA,by simp⟩ ?_
 rintro W0 ⟨hbW,hX,hs0⟩;have cX := hX.cell;refine wp_region_below [0,1,2,4,5,6,3,7,8,9] (by kernel_rfl) (by kernel_rfl) (fun _ _ d _ _ h => by cases d <;> exact h) ?_
 simp only [List.map_cons,List.map_nil,ldz,lds,bare,gslot,lcz,lcs,Option.bind_some]
 repeat' ((try simp only [Act.put,lsi,lsz,lss]);first | (refine lexL_quiet (v := ?_) wantB_none rfl ?_ ?_;rotate_left;focus (intro wq hq;obtain ⟨hcq,hfq⟩ := bcell hq;go_simp;try with_reducible rfl)) | (refine lexL_loud wantB_none rfl (fun K hK => ?_);(refine wp_append_own _ _ _ 93 rfl (w.heap.size + 1) 5 i0 (.int .u8 0) 1 1 Tryz.underlying93 hi hz0 (by assumption) (by assumption) rfl (by decide) _ _ _ rfl (ownB_base (ownB_below HO1.out hb2) (by (try simp);omega)) ⟨g2,0,none⟩ _ _ (ycells lb) rfl (by rw [ycells_len];omega) HN2.out (ycells_one _) ?_ ?_ ?_ ?_);(focus (unfold maxLen;omega));(focus omega);(focus omega);intro v3 w3 ho3 hg3 _;have hb3 : Below W0.heap.size W0 w3 := (Below.grown (w := w2) bel hg3 (by omega) (fun j e => by have := ((ownB_base (ownB_below HO1.out hb2) (base' := w.heap.size + 1) (by (try simp);omega)).lt j e).1;omega));have HO3 := Lib.hid ho3;refine hK.out _ _ bel ?_;clear hK K) | (refine lexL_loud wantB_none rfl (fun K hK => ?_);go_simp;((first | (go_at_call 167;(with_reducible refine (HA.out _).mono ?_);rintro e w1 ⟨s1,rfl,ho1,hb1⟩;have HO1 := Lib.hid ho1;clear ho1;obtain ⟨hc1,hf1⟩ := bcell hb1;have hz1 := hb1.size;(try simp at hz1);have hy1 : w.heap.size < w1.heap.size := (by omega)) | (go_at_call 167;(with_reducible refine (HB.out _).mono ?_);rintro e w2 ⟨s2,rfl,ho2,hb2⟩;obtain ⟨g2,e2,rfl,hnw2,hl2,hg2⟩ := own_pos ho2 (by omega);have HN2 := Lib.hid hnw2;clear hnw2 ho2;obtain ⟨hc2,hf2⟩ := bcell hb2;have hz2 := hb2.size;(try simp at hz2);have hy2 : w.heap.size < w2.heap.size := (by omega))  | skip) <;> (refine hK.out _ _ bel ?_;clear hK K))))
 (all_goals try simp only [Act.put,lsi,lsz,lss]);all_goals (refine lexL_nil ?_)
 have hX3 := hX.tr hb3;have hbw3 : Below w.heap.size w w3 := bel;have hz3 := hb3.size;have hlt3 := HO3.out.lt;clear ho3 hg3 hb3 hb2 hb1 HO1 HN2 hc1 hf1 hc2 hf2 hz2 hy1 hy2 hg2 cX hX hbW;have cX := hX3.cell;go_wp2_with fail;refine wp_region_belowB (w.heap.size + 1) [0,1,2,3,6,7,8,4,5,9,10,11] (by kernel_rfl) (by kernel_rfl) (fun _ _ d _ _ h => by cases d <;> exact h) ?_
 simp only [List.map_cons,List.map_nil,ldz,lds,bare,gslot,lcz,lcs,Option.bind_some]
 repeat' ((try simp only [Act.put,lsi,lsz,lss]);first | (refine lexL_quiet (v := ?_) wantB_none rfl ?_ ?_;rotate_left;focus (intro wq hq;obtain ⟨hcq,hfq⟩ := bcellB hq;go_simp;try with_reducible rfl)) | (refine lexL_loud wantB_none rfl (fun K hK => ?_);(first | ((refine wp_append_own _ _ _ 93 rfl (w.heap.size + 1) 5 i0 (.int .u8 0) 1 1 Tryz.underlying93 hi hz0 (by assumption) (by assumption) rfl (by decide) _ _ _ rfl (ownB_below HO5.out hb6) ⟨g6,0,none⟩ _ _ (ycells ld) rfl (by rw [ycells_len];omega) HN6.out (ycells_one _) ?_ ?_ ?_ ?_);(focus (unfold maxLen;omega));(focus omega);(focus omega);intro v7 w7 ho7 hg7 _;have hbB7 : Below (w.heap.size + 1) w3 w7 := (hbB6.grown hg7 (by omega) (fun j e => ((ownB_below HO5.out hb6).lt j e).1));have hbw7 : Below w.heap.size w w7 := (hbw3.trans (hbB7.mono (by omega)));have HO7 := Lib.hid ho7) | ((refine wp_append_own _ _ _ 93 rfl (w.heap.size + 1) 5 i0 (.int .u8 0) 1 1 Tryz.underlying93 hi hz0 (by assumption) (by assumption) rfl (by decide) _ _ _ rfl (ownB_below (owns_drew HO3.out) hb4) ⟨g4,0,none⟩ _ _ (ycells lc) rfl (by rw [ycells_len];omega) HN4.out (ycells_one _) ?_ ?_ ?_ ?_);(focus (unfold maxLen;omega));(focus omega);(focus omega);intro v5 w5 ho5 hg5 _;have hbB5 : Below (w.heap.size + 1) w3 w5 := (hbB4.grown hg5 (by omega) (fun j e => ((ownB_below (owns_drew HO3.out) hb4).lt j e).1));have HO5 := Lib.hid ho5;have hz5 := hbB5.size;clear ho5));refine hK.out _ _ (by first | with_reducible exact swapB1 | with_reducible exact Below.drew swapB1 | exact bel) ?_;clear hK K) | (refine lexL_loud wantB_none rfl (fun K hK => ?_);go_simp;((first | (go_at_call 167;(with_reducible refine (HC.out _).mono ?_);rintro e w4 ⟨s4,rfl,ho4,hb4⟩;obtain ⟨g4,e4,rfl,hnw4,hl4,hg4⟩ := own_pos ho4 (by omega);have HN4 := Lib.hid hnw4;clear hnw4 ho4;obtain ⟨hc4,hf4⟩ := bcell hb4;have hz4 := hb4.size;(try simp at hz4);have hy4 : w.heap.size < w4.heap.size := (by omega);have hbB4 : Below (w.heap.size + 1) w3 w4 := ((Below.refl _ _).drew.trans (hb4.mono (by (try simp);omega)))) | (go_at_call 167;(with_reducible refine (HD.out _).mono ?_);rintro e w6 ⟨s6,rfl,ho6,hb6⟩;obtain ⟨g6,e6,rfl,hnw6,hl6,hg6⟩ := own_pos ho6 (by omega);have HN6 := Lib.hid hnw6;clear hnw6 ho6;obtain ⟨hc6,hf6⟩ := bcell hb6;have hz6 := hb6.size;(try simp at hz6);have hy6 : w.heap.size < w6.heap.size := (by omega);have hbB6 : Below (w.heap.size + 1) w3 w6 := (hbB5.trans (hb6.mono (by omega))))  | skip) <;> (refine hK.out _ _ (by first | with_reducible exact swapB1 | with_reducible exact Below.drew swapB1 | exact bel) ?_;clear hK K))))
 (all_goals try simp only [Act.put,lsi,lsz,lss]);all_goals (refine lexL_nil ?_)
 go_wp2;go_ret;refine ⟨_,rfl,?_,bel⟩;have h := ownB_base HO7.out (Nat.le_succ w.heap.size)
 rw [HK.out]
 simp only [List.length_append,ycells_app]
 exact h
def rdS (l : List Nat) (k : Nat) (a b c d : Int) (r : List Nat) : Prop :=
 match k with
 | 0 => r = l
 | 1 => dec l = some (a,r)
 | 2 => ∃ l1,dec l = some (a,l1) ∧ dec l1 = some (b,r)
 | 3 => ∃ l1 l2,dec l = some (a,l1) ∧ dec l1 = some (b,l2) ∧ dec l2 = some (c,r)
 | _ => ∃ l1 l2 l3,dec l = some (a,l1) ∧ dec l1 = some (b,l2) ∧ dec l2 = some (c,l3) ∧ dec l3 = some (d,r)
theorem rdS_none {l r : List Nat} {k : Nat} {a b c d : Int} (hk : k < 4) (h : rdS l k a b c d r) (hd : dec r = none) : unkeyS l = none := by
 have : k = 0 ∨ k = 1 ∨ k = 2 ∨ k = 3 := by omega
 rcases this with rfl | rfl | rfl | rfl
 · simp only [rdS] at h;subst h;unfold unkeyS;rw [hd]
 · simp only [rdS] at h;unfold unkeyS;rw [h];simp only;rw [hd]
 · obtain ⟨l1,h1,h2⟩ := h;unfold unkeyS;rw [h1];simp only;rw [h2];simp only;rw [hd]
 · obtain ⟨l1,l2,h1,h2,h3⟩ := h;unfold unkeyS;rw [h1];simp only;rw [h2];simp only;rw [h3];simp only;rw [hd]
theorem rdS_end {l r : List Nat} {a b c d : Int} (h : rdS l 4 a b c d r) : unkeyS l = if r = [] ∧ okBx ⟨⟨a,b⟩,⟨c,d⟩⟩ = true then some ⟨⟨a,b⟩,⟨c,d⟩⟩ else none := by
 obtain ⟨l1,l2,l3,h1,h2,h3,h4⟩ := h;unfold unkeyS
 rw [h1];simp only;rw [h2];simp only;rw [h3];simp only;rw [h4]
theorem dec_byte {l r : List Nat} {x : Int} (hl : ∀ c ∈ l,c < 256) (h : dec l = some (x,r)) : (∀ c ∈ r,c < 256) ∧ r.length < l.length ∧ r = l.drop (l.length - r.length) ∧ in64 x := by
 obtain ⟨h1,h2⟩ := dec_inv hl h;have h3 := (sint_len h1).1;refine ⟨fun c hc => hl c (by rw [h2];simp [hc]),by rw [h2,List.length_append];omega,?_,h1⟩
 rw [h2,List.length_append,Nat.add_sub_cancel]
 simp
def unkeyV (l : List Nat) : Value := match unkeyS l with
 | none => .tuple #[bxV 0 0 0 0,.bool false]
 | some b => .tuple #[bxV b.lo.x b.lo.y b.hi.x b.hi.y,.bool true]
theorem box_putE {W : World} {g : Nat} {t : TypeId} {x y z u a b c d : Value} (h : Blk W g t #[x,y,z,u]) :
 Blk ((((W.setCell ⟨g,0,none⟩ a).setCell ⟨g,1,none⟩ b).setCell ⟨g,2,none⟩ c).setCell ⟨g,3,none⟩ d) g t #[a,b,c,d] :=
 ((((h.set_ 0 a).set_ 1 b).set_ 2 c).set_ 3 d).eq_ (by simp)
def ErrD (w : World) (k : Nat) : Nat → Value → Prop
 | 0,v => v = .iface 92 (.int .i64 k)
 | d + 1,v => ∃ (g : Nat) (s : ByteArray) (id : Int) (inner : Value),v = faultV g ∧ Blk w g 125 #[.string s,.int .i64 id,inner] ∧ ErrD w k d inner
theorem ErrD.keep {w w' : World} {k : Nat} (hk : ∀ {g : Nat} {cs : Array Value},Blk w g 125 cs → Blk w' g 125 cs) : ∀ (d : Nat) (v : Value),ErrD w k d v → ErrD w' k d v := by
 intro d
 induction d with
 | zero => intro v h;exact h
 | succ d ih =>
   intro v h;obtain ⟨g,s,id,inner,hv,hB,hi⟩ := h;exact ⟨g,s,id,inner,hv,hk hB,ih inner hi⟩
def ErrX (w : World) (v : Value) (k : Nat) (s : ByteArray) (id : Int) : Prop :=
 (k = 0 ∧ v = .nilIface) ∨ (k ≠ 0 ∧ ∃ (g d : Nat) (inner : Value),v = faultV g ∧ Blk w g 125 #[.string s,.int .i64 id,inner] ∧ ErrD w k d inner)
def ErrY (w : World) (v : Value) (k : Nat) : Prop := (k = 0 ∧ v = .nilIface) ∨ (k ≠ 0 ∧ ∃ d,ErrD w k d v)
theorem ErrY.keep {w w' : World} {v : Value} {k : Nat} (hk : ∀ {g : Nat} {cs : Array Value},Blk w g 125 cs → Blk w' g 125 cs) (h : ErrY w v k) : ErrY w' v k := by
 rcases h with h | ⟨h0,d,hi⟩
 · exact .inl h
 · exact .inr ⟨h0,d,hi.keep hk d v⟩
theorem ErrY.tr {w w' : World} {v : Value} {k : Nat} (h : ErrY w v k) (hb : Below w.heap.size w w') : ErrY w' v k := h.keep (fun hB => hB.tr hb)
theorem ErrX.y {w : World} {v : Value} {k : Nat} {s : ByteArray} {id : Int} (h : ErrX w v k s id) : ErrY w v k := by
 rcases h with h | ⟨h0,g,d,inner,hv,hB,hi⟩
 · exact .inl h
 · exact .inr ⟨h0,d + 1,g,s,id,inner,hv,hB,hi⟩
theorem ErrY.zero {w : World} {v : Value} (h : ErrY w v 0) : v = .nilIface := by
 rcases h with ⟨_,h⟩ | ⟨h,_⟩
 · exact h
 · exact absurd rfl h
theorem ErrX.zero {w : World} {v : Value} {s : ByteArray} {id : Int} (h : ErrX w v 0 s id) : v = .nilIface := h.y.zero
theorem ErrD.some {w : World} {k : Nat} : ∀ (d : Nat) (v : Value),ErrD w k d v → ∃ t u,v = .iface t u
 | 0,v,h => ⟨_,_,h⟩
 | d + 1,v,⟨g,s,id,inner,hv,_,_⟩ => ⟨_,_,hv⟩
theorem ErrY.succ {w : World} {v : Value} {k : Nat} (h : ErrY w v k) (hk : k ≠ 0) : ∃ t u,v = .iface t u := by
 rcases h with ⟨h,_⟩ | ⟨_,d,h⟩
 · exact absurd h hk
 · exact h.some
theorem ErrX.succ {w : World} {v : Value} {k : Nat} {s : ByteArray} {id : Int} (h : ErrX w v k s id) (hk : k ≠ 0) : ∃ t u,v = .iface t u := h.y.succ hk
theorem errD_bare {w : World} {v : Value} {k : Nat} (h0 : k ≠ 0) (h : v = errV k) : ErrD w k 0 v := by rw [h,errV_ne h0];rfl
theorem ErrC.y {w : World} {v : Value} {k : Nat} (h : ErrC w v k) : ErrY w v k := by
 by_cases h0 : k = 0
 · subst h0
   exact .inl ⟨rfl,h.zero⟩
 · rcases h with h | ⟨h,_⟩ | ⟨_,g,s,id,hv,hB⟩
   · exact .inr ⟨h0, 0, errD_bare h0 h⟩
   · exact absurd h h0
   · exact .inr ⟨h0, 1, g, s, id, _, hv, hB, errD_bare h0 rfl⟩
theorem ErrC.d {w : World} {v : Value} {k : Nat} (h : ErrC w v k) (h0 : k ≠ 0) : ∃ d,ErrD w k d v := by
 rcases h.y with ⟨h,_⟩ | ⟨_,h⟩
 · exact absurd h h0
 · exact h
theorem ErrW.x {w : World} {v : Value} {k : Nat} {s : ByteArray} {id : Int} (h : ErrW w v k s id) : ErrX w v k s id := by
 rcases h with h | ⟨h0,g,inner,hv,hB,hi⟩
 · exact .inl h
 · obtain ⟨d,hd⟩ := hi.d h0
   exact .inr ⟨h0,g,d,inner,hv,hB,hd⟩
theorem fnewX_any (s : ByteArray) (id : Int) (v : Value) (k : Nat) (w : World) (hv : ErrY w v k) :
 Calls Tryz.prog 32 #[.string s,.int .i64 id,v] w fun e w' => ∃ v',e = .returned v' ∧ ErrX w' v' k s id ∧ Below w.heap.size w w' := by
 by_cases hk : k = 0
 · subst hk
   have := hv.zero;subst this
   go_enter Tryz.func32, Tryz.ntmps32
   go_wp2;go_ret;exact ⟨_,rfl,.inl ⟨rfl,rfl⟩,bel⟩
 · obtain ⟨t,u,rfl⟩ := hv.succ hk
   have HV := Lib.hid hv;clear hv
   go_enter Tryz.func32, Tryz.ntmps32
   go_wp2;go_ret;refine ⟨_,rfl,?_,bel⟩
   rcases HV.out with ⟨h, _⟩ | ⟨_, d, hd⟩
   · exact absurd h hk
   · exact .inr ⟨hk, _, d, _, rfl, Blk.new rfl rfl, hd.keep (fun hB => hB.alloc _) d _⟩
end Go.Proofs.YtcbjmcnebmhgpaaGreat
namespace Pg
open Go Go.RowKit
theorem own_belowK {w w' : World} {base : Nat} {e : TypeId} {size : Nat} {v : Value} {n : Nat} {xs : List Value} (h : w.ownsRow base e size v n xs) (hb : Below w.heap.size w w') : w'.ownsRow base e size v n xs := by
 obtain ⟨h1,h2 | ⟨g,cap,cur,hv,hg,hh,r⟩⟩ := h
 · exact ⟨h1,.inl h2⟩
 · refine ⟨h1,.inr ⟨g,cap,cur,hv,hg,(hb.block g ?_).trans hh,r⟩⟩
   rcases Nat.lt_or_ge g w.heap.size with h | h
   · exact h
   · rw [Array.getElem?_eq_none h] at hh;cases hh
theorem own_grown {w w' : World} {base base' : Nat} {e e' : TypeId} {size size' : Nat} {v v' : Value} {n n' : Nat} {xs xs' : List Value} (h : w.ownsRow base e size v n xs) (h' : w.ownsRow base' e' size' v' n' xs') (he : e ≠ e') (hg : w.grownBy w' v'.ownBlock) : w'.ownsRow base e size v n xs := by
 obtain ⟨h1,h2 | ⟨g,cap,cur,hv,hgb,hh,r⟩⟩ := h
 · exact ⟨h1,.inl h2⟩
 · refine ⟨h1,.inr ⟨g,cap,cur,hv,hgb,(hg.block g ?_ ?_).trans hh,r⟩⟩
   · rcases Nat.lt_or_ge g w.heap.size with h | h
     · exact h
     · rw [Array.getElem?_eq_none h] at hh;cases hh
   · intro hne
     obtain ⟨_,⟨rfl,_⟩ | ⟨g',_,cur',rfl,_,hh',_⟩⟩ := h'
     · cases hne
     · unfold Value.ownBlock at hne
       injection hne with hne
       subst hne
       rw [hh] at hh'
       injection hh' with hh'
       injection hh' with _ h2 _
       exact he h2
end Pg
namespace Go.Proofs.YtcbjmcnebmhgpaaGreat
open Go.RowKit Pg
def KeysAt (w : World) (base : Nat) (v : Value) (L : List (List Nat)) : Prop :=
 ∃ cs : List Value,w.ownsRow base 93 1 v L.length cs ∧ ∀ (j : Nat) (u : Value),cs[j]? = some u → ∃ l,L[j]? = some l ∧ w.ownsRow base 5 1 u l.length (ycells l)
theorem KeysAt.nil (w : World) (base : Nat) : KeysAt w base (.slice none 0 0) [] := ⟨[],World.ownsRow_nil _ _ _ _,fun j u h => by simp at h⟩
theorem KeysAt.below {w w' : World} {base : Nat} {v : Value} {L : List (List Nat)} (h : KeysAt w base v L) (hb : Below w.heap.size w w') : KeysAt w' base v L := by
 obtain ⟨cs,h1,h2⟩ := h;refine ⟨cs,own_belowK h1 hb,fun j u hu => ?_⟩
 obtain ⟨l,hl,ho⟩ := h2 j u hu;exact ⟨l,hl,own_belowK ho hb⟩
theorem keys_append {w w' : World} {base : Nat} {v v' s : Value} {L : List (List Nat)} {l : List Nat} {cs : List Value} (h1 : w.ownsRow base 93 1 v L.length cs) (h2 : ∀ (j : Nat) (u : Value),cs[j]? = some u → ∃ l,L[j]? = some l ∧ w.ownsRow base 5 1 u l.length (ycells l))
 (hs : w.ownsRow base 5 1 s l.length (ycells l)) (h3 : w'.ownsRow base 93 1 v' (L.length + 1) (cs ++ [s])) (hg : w.grownBy w' v.ownBlock) : KeysAt w' base v' (L ++ [l]) := by
 have hcl : cs.length = L.length := by rw [h1.1];omega
 refine ⟨cs ++ [s],by rw [List.length_append,List.length_singleton];exact h3,fun j u hu => ?_⟩
 rcases Nat.lt_or_ge j cs.length with hj | hj
 · rw [List.getElem?_append_left hj] at hu
   obtain ⟨l',hl',ho⟩ := h2 j u hu;exact ⟨l',by rw [List.getElem?_append_left (by omega)];exact hl',own_grown ho h1 (by decide) hg⟩
 · rw [List.getElem?_append_right hj] at hu
   have hj0 : j = cs.length := by
    rcases Nat.eq_or_lt_of_le hj with h | h
    · exact h.symm
    · rw [List.getElem?_eq_none (by simp;omega)] at hu;cases hu
   subst hj0
   simp at hu
   subst hu;exact ⟨l,by rw [hcl,List.getElem?_append_right (Nat.le_refl _)];simp,own_grown hs h1 (by decide) hg⟩
theorem rbs_of_keys {w : World} {base : Nat} {v : Value} {L : List (List Nat)} (h : KeysAt w base v L) : ∃ A c,v = .slice A L.length c ∧ RbsAt w w.heap.size A L.length L := by
 obtain ⟨cs,h1,h2⟩ := h;have h1' := h1;obtain ⟨hlen,⟨rfl,h0⟩ | ⟨g,cap,cur,rfl,hg,hh,r⟩⟩ := h1
 · rw [h0]
   exact ⟨none,0,rfl,h0,fun h => absurd h (by omega)⟩
 · refine ⟨_,cap,rfl,rfl,fun hn => ⟨g,0,rfl,?_,fun k l hl => ?_⟩⟩
   · rcases Nat.lt_or_ge g w.heap.size with h | h
     · exact h
     · rw [Array.getElem?_eq_none h] at hh;cases hh
   have hk : k < L.length := by
    rcases Nat.lt_or_ge k L.length with h | h
    · exact h
    · rw [List.getElem?_eq_none h] at hl;cases hl
   have hk2 : k < cs.length := by omega
   obtain ⟨u,hu⟩ : ∃ u,cs[k]? = some u := ⟨_,List.getElem?_eq_getElem hk2⟩;obtain ⟨l',hl',ho⟩ := h2 k u hu
   rw [hl] at hl'
   injection hl' with hl'
   subst hl';obtain ⟨A',c',rfl,hB,hln,hz,hm⟩ := bys_of_own2 ho;refine ⟨A',l.length,c',?_,hB,hz,hm⟩
   rw [Nat.zero_add, h1'.cellAt k (by omega)]
   exact hu
end Go.Proofs.YtcbjmcnebmhgpaaGreat
