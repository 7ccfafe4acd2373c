/-
  Contracts of package rel: box, verts, interval.
  Contracts of package rel: check, wrap, Check, query, CheckQuery.
  Contracts of package rel: cut.
  Contracts of package rel: rings.
  Contracts of package rel: meets, bounds, Match, Touch.
  Contracts of package rel: bounds, Match.
  Contracts of package rel: Match.
-/
import Derived.Test.YtildgbhliaonnaaGreatQRing
import Derived.Test.YtildgbhliaonnaaGreatQLex
import Derived.Test.YtildgbhliaonnaaGreatQPlainSplit
set_option linter.unusedVariables false
set_option linter.unusedSimpArgs false
set_option maxHeartbeats 1000000
set_option maxRecDepth 20000
namespace Go.Proofs.YtildgbhliaonnaaGreat
open Go.RowKit Pg
abbrev obV (k : Int) (A : Option Addr) (n c : Nat) : Value := .agg #[.int .i64 k,.slice A n c]
abbrev bxW (b : Bx) : Value := bxV b.lo.x b.lo.y b.hi.x b.hi.y
theorem box_any (B n c : Nat) (k : Int) (A : Option Addr) (l : List Pt) (w : World) (hl : PtsAt w B A n l) (hB : B ≤ w.heap.size) (h1 : k = 1 ∨ k = 2 → 1 ≤ n) (h2 : k = 3 → 2 ≤ n) :
 Calls Tryz.prog 69 #[obV k A n c] w (Ret w (.tuple #[bxW (obBox ⟨k,l⟩),.bool (isBox ⟨k,l⟩)])) := by
 by_cases k1 : k = 1
 · subst k1
   have hn := h1 (.inl rfl);obtain ⟨b,off,rfl,hab,c0,c1⟩ := hl.at_ (k := 0) hn;have hn' : 0 < n := by omega
   have hbw : b < w.heap.size := by omega
   have hbw1 : b < w.heap.size + 1 := by omega
   have hbw2 : b < w.heap.size + 1 + 1 := by omega
   simp only [Nat.zero_mul,Nat.add_zero] at c0 c1;have HR : Hid (obBox ⟨1,l⟩ = ⟨pt l 0,pt l 0⟩) := by simp [Hid,obBox]
   go_enter Tryz.func69, Tryz.ntmps69
   go_wp2_with fail;refine wp_region_belowB (w.heap.size + 1) [0,1,2,3,4,5,6,7,8,9,10] (by kernel_rfl) (by kernel_rfl) (fun _ _ d _ _ h => by cases d <;> exact h) ?_
   simp only [List.map_cons, List.map_nil, ldz, lds, bare, gslot, lcz, lcs, Option.bind_some]
   repeat' ((try simp only [Act.put,lsi,lsz,lss]);first | (refine lexL_quiet (v := ?_) wantB_none rfl ?_ ?_;rotate_left;focus (intro wq hq;obtain ⟨hcq,hfq⟩ := bcellB hq;go_simp;try with_reducible rfl)) | (refine lexL_loud wantB_none rfl (fun K hK => ?_);go_simp;((first | fail | skip) <;> (refine hK.out _ _ (by first | with_reducible exact swapB1 | with_reducible exact Below.drew swapB1 | exact bel) ?_;clear hK K))))
   (all_goals try simp only [Act.put,lsi,lsz,lss]);all_goals (refine lexL_nil ?_)
   go_wp2;exact bodyPost_ret (v := .tuple #[bxW (obBox ⟨1,l⟩),.bool (isBox ⟨1,l⟩)]) (by simp [results,Tryz.results69,go_sem,HR.out,isBox]) rfl ⟨rfl,bel⟩
 by_cases k2 : k = 2
 · subst k2
   have hn := h1 (.inr rfl);obtain ⟨b,off,rfl,hab,c0,c1⟩ := hl.at_ (k := 0) hn;have hn' : 0 < n := by omega
   have hbw : b < w.heap.size := by omega
   have hbw1 : b < w.heap.size + 1 := by omega
   have hbw2 : b < w.heap.size + 1 + 1 := by omega
   simp only [Nat.zero_mul,Nat.add_zero] at c0 c1;have HR : Hid (obBox ⟨2,l⟩ = ⟨⟨(pt l 0).x,0⟩,⟨(pt l 0).y,0⟩⟩) := by simp [Hid,obBox]
   go_enter Tryz.func69, Tryz.ntmps69
   go_wp2_with fail;refine wp_region_belowB (w.heap.size + 1) [0,1,2,3,4,5,6,7,8,9,10,11,12,13,14] (by kernel_rfl) (by kernel_rfl) (fun _ _ d _ _ h => by cases d <;> exact h) ?_
   simp only [List.map_cons, List.map_nil, ldz, lds, bare, gslot, lcz, lcs, Option.bind_some]
   repeat' ((try simp only [Act.put,lsi,lsz,lss]);first | (refine lexL_quiet (v := ?_) wantB_none rfl ?_ ?_;rotate_left;focus (intro wq hq;obtain ⟨hcq,hfq⟩ := bcellB hq;go_simp;try with_reducible rfl)) | (refine lexL_loud wantB_none rfl (fun K hK => ?_);go_simp;((first | fail | skip) <;> (refine hK.out _ _ (by first | with_reducible exact swapB1 | with_reducible exact Below.drew swapB1 | exact bel) ?_;clear hK K))))
   (all_goals try simp only [Act.put,lsi,lsz,lss]);all_goals (refine lexL_nil ?_)
   go_wp2;exact bodyPost_ret (v := .tuple #[bxW (obBox ⟨2,l⟩),.bool (isBox ⟨2,l⟩)]) (by simp [results,Tryz.results69,go_sem,HR.out,isBox]) rfl ⟨rfl,bel⟩
 by_cases k3 : k = 3
 · subst k3
   have hn := h2 rfl;obtain ⟨b,off,rfl,hab,c0,c1⟩ := hl.at_ (k := 0) (by omega)
   obtain ⟨b',off',he,hab',c2,c3⟩ := hl.at_ (k := 1) (by omega)
   injection he with he
   injection he with he1 he2
   subst he1 he2;have hn' : 0 < n := by omega
   have hn2 : 1 < n := by omega
   have hn3 : (1 : Int) < n := by omega
   have hbw : b < w.heap.size := by omega
   have hbw1 : b < w.heap.size + 1 := by omega
   have hbw2 : b < w.heap.size + 1 + 1 := by omega
   simp only [Nat.zero_mul,Nat.add_zero,Nat.one_mul] at c0 c1 c2 c3;have HR : Hid (obBox ⟨3,l⟩ = ⟨pt l 0,pt l 1⟩) := by simp [Hid,obBox]
   go_enter Tryz.func69, Tryz.ntmps69
   go_wp2_with fail;refine wp_region_belowB (w.heap.size + 1) [0,1,2,3,4,5,6,7,8,9,10] (by kernel_rfl) (by kernel_rfl) (fun _ _ d _ _ h => by cases d <;> exact h) ?_
   simp only [List.map_cons, List.map_nil, ldz, lds, bare, gslot, lcz, lcs, Option.bind_some]
   repeat' ((try simp only [Act.put,lsi,lsz,lss]);first | (refine lexL_quiet (v := ?_) wantB_none rfl ?_ ?_;rotate_left;focus (intro wq hq;obtain ⟨hcq,hfq⟩ := bcellB hq;go_simp;try with_reducible rfl)) | (refine lexL_loud wantB_none rfl (fun K hK => ?_);go_simp;((first | fail | skip) <;> (refine hK.out _ _ (by first | with_reducible exact swapB1 | with_reducible exact Below.drew swapB1 | exact bel) ?_;clear hK K))))
   (all_goals try simp only [Act.put,lsi,lsz,lss]);all_goals (refine lexL_nil ?_)
   go_wp2;exact bodyPost_ret (v := .tuple #[bxW (obBox ⟨3,l⟩),.bool (isBox ⟨3,l⟩)]) (by simp [results,Tryz.results69,go_sem,HR.out,isBox]) rfl ⟨rfl,bel⟩
 · have HR : Hid (obBox ⟨k,l⟩ = bzero) := by simp [Hid,obBox,k1,k2,k3]
   have HI : Hid (isBox ⟨k,l⟩ = false) := by simp [Hid,isBox,k1,k2,k3]
   go_enter Tryz.func69, Tryz.ntmps69
   go_wp2;exact bodyPost_ret (v := .tuple #[bxW (obBox ⟨k,l⟩),.bool (isBox ⟨k,l⟩)]) (by simp [results,Tryz.results69,go_sem,HR.out,HI.out,bzero]) rfl ⟨rfl,bel⟩
theorem verts_any (k : Int) (w : World) : Calls Tryz.prog 105 #[.int .i64 k] w (Ret w (.int .i64 (if k = 3 then 2 else 1))) := by
 by_cases h : k = 3
 all_goals
  go_enter Tryz.func105, Tryz.ntmps105
  go_wp2;go_ret;exact ⟨rfl,bel⟩
theorem interval_any (x y : Int) (w : World) : Calls Tryz.prog 106 #[ptV x y] w (Ret w (errV (ckInt ⟨x,y⟩))) := by
 cases h : okPt ⟨x,y⟩
 · have HE : Hid (errV (if okPt ⟨x,y⟩ = true then 0 else 2) = .iface 84 (.int .i64 2)) := by unfold Hid;rw [h];rfl
   have HF : Hid (ckInt ⟨x,y⟩ = 2) := by simp [Hid,ckInt,h]
   clear h
   go_enter Tryz.func106, Tryz.ntmps106
   go_wp2_with (go_at_call 25;refine (checkPoint_any _ _ _).mono ?_;rw [HE.out];rintro e w1 ⟨rfl,hb1⟩;obtain ⟨hc1,hf1⟩ := bcell hb1;have hz1 := hb1.size;(try simp at hz1);have hy0 : w.heap.size < w1.heap.size := (by omega))
   go_ret;exact ⟨by rw [HF.out];rfl,bel⟩
 · have HE : Hid (errV (if okPt ⟨x,y⟩ = true then 0 else 2) = .nilIface) := by unfold Hid;rw [h];rfl
   have HF : Hid (ckInt ⟨x,y⟩ = if y < x then 1 else 0) := by simp [Hid,ckInt,h]
   clear h
   by_cases hlt : y < x
   all_goals
    go_enter Tryz.func106, Tryz.ntmps106
    go_wp2_with (go_at_call 25;refine (checkPoint_any _ _ _).mono ?_;rw [HE.out];rintro e w1 ⟨rfl,hb1⟩;obtain ⟨hc1,hf1⟩ := bcell hb1;have hz1 := hb1.size;(try simp at hz1);have hy0 : w.heap.size < w1.heap.size := (by omega))
    go_ret;exact ⟨by rw [HF.out];first | (rw [if_pos (by omega)];rfl) | (rw [if_neg (by omega)];rfl),bel⟩
def ErrC (w : World) (v : Value) (k : Nat) : Prop := v = errV k ∨ ErrR w v k
def RetC (w : World) (k : Nat) : Ending → World → Prop := fun e w' => ∃ v,e = .returned v ∧ ErrC w' v k ∧ Below w.heap.size w w'
def ErrW (w : World) (v : Value) (k : Nat) (s : ByteArray) (id : Int) : Prop := (k = 0 ∧ v = .nilIface) ∨ (k ≠ 0 ∧ ∃ (g : Nat) (inner : Value),v = faultV g ∧ Blk w g 105 #[.string s,.int .i64 id,inner] ∧ ErrC w inner k)
def RetW (w : World) (k : Nat) (s : ByteArray) (id : Int) : Ending → World → Prop := fun e w' => ∃ v,e = .returned v ∧ ErrW w' v k s id ∧ Below w.heap.size w w'
theorem ErrR.alloc {w : World} {v : Value} {k : Nat} (h : ErrR w v k) (o : Obj) : ErrR (w.alloc o) v k := by
 rcases h with h | ⟨h0,g,s,id,e,hb⟩
 · exact .inl h
 · exact .inr ⟨h0,g,s,id,e,hb.alloc o⟩
theorem ErrC.alloc {w : World} {v : Value} {k : Nat} (h : ErrC w v k) (o : Obj) : ErrC (w.alloc o) v k := by
 rcases h with h | h
 · exact .inl h
 · exact .inr (h.alloc o)
theorem ErrC.zero {w : World} {v : Value} (h : ErrC w v 0) : v = .nilIface := by
 rcases h with h | ⟨_,h⟩ | ⟨h,_⟩
 · exact h
 · exact h
 · exact absurd rfl h
theorem ErrC.succ {w : World} {v : Value} {k : Nat} (h : ErrC w v k) (hk : k ≠ 0) : ∃ t u,v = .iface t u := by
 rcases h with h | ⟨h,_⟩ | ⟨_,g,s,id,e,hb⟩
 · cases k with
   | zero => exact absurd rfl hk
   | succ k => exact ⟨_, _, h⟩
 · exact absurd h hk
 · exact ⟨_,_,e⟩
theorem errV_ne {k : Nat} (hk : k ≠ 0) : errV k = .iface 84 (.int .i64 k) := by
 cases k with
 | zero => exact absurd rfl hk
 | succ k => rfl
theorem wrap_any (s : ByteArray) (id : Int) (v : Value) (k : Nat) (w : World) (hv : ErrC w v k) :
 Calls Tryz.prog 46 #[.string s,.int .i64 id,v] w (RetW w k s id) := by
 by_cases hk : k = 0
 · subst hk
   have := hv.zero;subst this
   go_enter Tryz.func46, Tryz.ntmps46
   go_wp2;go_ret;exact ⟨_,rfl,.inl ⟨rfl,rfl⟩,bel⟩
 · obtain ⟨t,u,rfl⟩ := hv.succ hk
   go_enter Tryz.func46, Tryz.ntmps46
   go_wp2;go_ret;exact ⟨_,rfl,.inr ⟨hk,_,_,rfl,Blk.new rfl rfl,hv.alloc _⟩,bel⟩
theorem relcheck_any (B n c : Nat) (k : Int) (A : Option Addr) (l : List Pt) (w : World) (hl : PtsAt w B A n l) (hB : B ≤ w.heap.size) (hn : n ≤ 1000000) :
 Calls Tryz.prog 68 #[obV k A n c] w (RetC w (ckOb ⟨k,l⟩)) := by
 by_cases k1 : k = 1
 · subst k1
   by_cases h : n = 1
   · subst h
     have HF : Hid (ckOb ⟨1,l⟩ = ckBox (obBox ⟨1,l⟩)) := by simp [Hid,ckOb,obBox,hl.1]
     go_enter Tryz.func68, Tryz.ntmps68
     go_wp2_with fail;refine wp_region_belowI (by kernel_rfl) (by kernel_rfl) (fun _ _ d _ _ h => by cases d <;> exact h) ?_
     simp only [List.map_cons, List.map_nil, ldz, lds, bare, gslot, lcz, lcs, Option.bind_some]
     repeat' ((try simp only [Act.put,lsi,lsz,lss]);first | (refine lexL_quiet (v := ?_) wantB_none rfl ?_ ?_;rotate_left;focus (intro wq hq;obtain ⟨hcq,hfq⟩ := bcell hq;go_simp;try with_reducible rfl)) | (refine lexL_loud wantB_none rfl (fun K hK => ?_);go_simp;((first | (go_at_call 105;refine (verts_any _ _).mono ?_;rintro e w1 ⟨rfl,hb1⟩;obtain ⟨hc1,hf1⟩ := bcell hb1;have hz1 := hb1.size;(try simp at hz1);have hy0 : w.heap.size < w1.heap.size := (by omega)) | skip) <;> (refine hK.out _ _ bel ?_;clear hK K))))
     (all_goals try simp only [Act.put,lsi,lsz,lss]);all_goals (refine lexL_nil ?_)
     go_wp2_with (first | (go_at_call 69;refine (box_any B 1 c 1 A l _ (hl.tr bel hB) (Nat.le_trans hB (Below.size (B := w.heap.size) (w := w) bel)) (by omega) (by omega)).mono ?_;rintro e w1 ⟨rfl,hb1⟩;obtain ⟨hc1,hf1⟩ := bcell hb1;have hz1 := hb1.size;(try simp at hz1);have hy0 : w.heap.size < w1.heap.size := (by omega)) | (go_at_call 76;refine (checkBox_any _ _ _ _ _).mono ?_;rintro e w1 ⟨rfl,hb1⟩;obtain ⟨hc1,hf1⟩ := bcell hb1;have hz1 := hb1.size;(try simp at hz1);have hy0 : w.heap.size < w1.heap.size := (by omega)))
     go_ret;exact ⟨_,rfl,.inl (by rw [HF.out];rfl),bel⟩
   · have HF : Hid (ckOb ⟨1, l⟩ = 3) := by simp [Hid, ckOb, hl.1, h]
     have hne : ¬ (n : Int) = 1 := by omega
     go_enter Tryz.func68, Tryz.ntmps68
     go_wp2_with fail;refine wp_region_belowI (by kernel_rfl) (by kernel_rfl) (fun _ _ d _ _ h => by cases d <;> exact h) ?_
     simp only [List.map_cons, List.map_nil, ldz, lds, bare, gslot, lcz, lcs, Option.bind_some]
     repeat' ((try simp only [Act.put,lsi,lsz,lss]);first | (refine lexL_quiet (v := ?_) wantB_none rfl ?_ ?_;rotate_left;focus (intro wq hq;obtain ⟨hcq,hfq⟩ := bcell hq;go_simp;try with_reducible rfl)) | (refine lexL_loud wantB_none rfl (fun K hK => ?_);go_simp;((first | (go_at_call 105;refine (verts_any _ _).mono ?_;rintro e w1 ⟨rfl,hb1⟩;obtain ⟨hc1,hf1⟩ := bcell hb1;have hz1 := hb1.size;(try simp at hz1);have hy0 : w.heap.size < w1.heap.size := (by omega)) | skip) <;> (refine hK.out _ _ bel ?_;clear hK K))))
     (all_goals try simp only [Act.put,lsi,lsz,lss]);all_goals (refine lexL_nil ?_)
     go_wp2;go_ret;exact ⟨_,rfl,.inl (by rw [HF.out];rfl),bel⟩
 by_cases k2 : k = 2
 · subst k2
   by_cases h : n = 1
   · subst h
     have HF : Hid (ckOb ⟨2,l⟩ = ckInt (pt l 0)) := by simp [Hid,ckOb,hl.1]
     obtain ⟨b,off,rfl,hab,c0,c1⟩ := hl.at_ (k := 0) (by omega)
     simp only [Nat.zero_mul,Nat.add_zero] at c0 c1;have hbw : b < w.heap.size := by omega
     have hbw1 : b < w.heap.size + 1 := by omega
     go_enter Tryz.func68, Tryz.ntmps68
     go_wp2_with fail;refine wp_region_belowI (by kernel_rfl) (by kernel_rfl) (fun _ _ d _ _ h => by cases d <;> exact h) ?_
     simp only [List.map_cons, List.map_nil, ldz, lds, bare, gslot, lcz, lcs, Option.bind_some]
     repeat' ((try simp only [Act.put,lsi,lsz,lss]);first | (refine lexL_quiet (v := ?_) wantB_none rfl ?_ ?_;rotate_left;focus (intro wq hq;obtain ⟨hcq,hfq⟩ := bcell hq;go_simp;try with_reducible rfl)) | (refine lexL_loud wantB_none rfl (fun K hK => ?_);go_simp;((first | (go_at_call 105;refine (verts_any _ _).mono ?_;rintro e w1 ⟨rfl,hb1⟩;obtain ⟨hc1,hf1⟩ := bcell hb1;have hz1 := hb1.size;(try simp at hz1);have hy0 : w.heap.size < w1.heap.size := (by omega)) | skip) <;> (refine hK.out _ _ bel ?_;clear hK K))))
     (all_goals try simp only [Act.put,lsi,lsz,lss]);all_goals (refine lexL_nil ?_)
     go_wp2_with (go_at_call 106;refine (interval_any _ _ _).mono ?_;rintro e w1 ⟨rfl,hb1⟩;obtain ⟨hc1,hf1⟩ := bcell hb1;have hz1 := hb1.size;(try simp at hz1);have hy0 : w.heap.size < w1.heap.size := (by omega))
     go_ret;exact ⟨_,rfl,.inl (by rw [HF.out];rfl),bel⟩
   · have HF : Hid (ckOb ⟨2, l⟩ = 3) := by simp [Hid, ckOb, hl.1, h]
     have hne : ¬ (n : Int) = 1 := by omega
     go_enter Tryz.func68, Tryz.ntmps68
     go_wp2_with fail;refine wp_region_belowI (by kernel_rfl) (by kernel_rfl) (fun _ _ d _ _ h => by cases d <;> exact h) ?_
     simp only [List.map_cons, List.map_nil, ldz, lds, bare, gslot, lcz, lcs, Option.bind_some]
     repeat' ((try simp only [Act.put,lsi,lsz,lss]);first | (refine lexL_quiet (v := ?_) wantB_none rfl ?_ ?_;rotate_left;focus (intro wq hq;obtain ⟨hcq,hfq⟩ := bcell hq;go_simp;try with_reducible rfl)) | (refine lexL_loud wantB_none rfl (fun K hK => ?_);go_simp;((first | (go_at_call 105;refine (verts_any _ _).mono ?_;rintro e w1 ⟨rfl,hb1⟩;obtain ⟨hc1,hf1⟩ := bcell hb1;have hz1 := hb1.size;(try simp at hz1);have hy0 : w.heap.size < w1.heap.size := (by omega)) | skip) <;> (refine hK.out _ _ bel ?_;clear hK K))))
     (all_goals try simp only [Act.put,lsi,lsz,lss]);all_goals (refine lexL_nil ?_)
     go_wp2;go_ret;exact ⟨_,rfl,.inl (by rw [HF.out];rfl),bel⟩
 by_cases k3 : k = 3
 · subst k3
   by_cases h : n = 2
   · subst h
     have HF : Hid (ckOb ⟨3,l⟩ = ckBox (obBox ⟨3,l⟩)) := by simp [Hid,ckOb,obBox,hl.1]
     go_enter Tryz.func68, Tryz.ntmps68
     go_wp2_with fail;refine wp_region_belowI (by kernel_rfl) (by kernel_rfl) (fun _ _ d _ _ h => by cases d <;> exact h) ?_
     simp only [List.map_cons, List.map_nil, ldz, lds, bare, gslot, lcz, lcs, Option.bind_some]
     repeat' ((try simp only [Act.put,lsi,lsz,lss]);first | (refine lexL_quiet (v := ?_) wantB_none rfl ?_ ?_;rotate_left;focus (intro wq hq;obtain ⟨hcq,hfq⟩ := bcell hq;go_simp;try with_reducible rfl)) | (refine lexL_loud wantB_none rfl (fun K hK => ?_);go_simp;((first | (go_at_call 105;refine (verts_any _ _).mono ?_;rintro e w1 ⟨rfl,hb1⟩;obtain ⟨hc1,hf1⟩ := bcell hb1;have hz1 := hb1.size;(try simp at hz1);have hy0 : w.heap.size < w1.heap.size := (by omega)) | skip) <;> (refine hK.out _ _ bel ?_;clear hK K))))
     (all_goals try simp only [Act.put,lsi,lsz,lss]);all_goals (refine lexL_nil ?_)
     go_wp2_with (first | (go_at_call 69;refine (box_any B 2 c 3 A l _ (hl.tr bel hB) (Nat.le_trans hB (Below.size (B := w.heap.size) (w := w) bel)) (by omega) (by omega)).mono ?_;rintro e w1 ⟨rfl,hb1⟩;obtain ⟨hc1,hf1⟩ := bcell hb1;have hz1 := hb1.size;(try simp at hz1);have hy0 : w.heap.size < w1.heap.size := (by omega)) | (go_at_call 76;refine (checkBox_any _ _ _ _ _).mono ?_;rintro e w1 ⟨rfl,hb1⟩;obtain ⟨hc1,hf1⟩ := bcell hb1;have hz1 := hb1.size;(try simp at hz1);have hy0 : w.heap.size < w1.heap.size := (by omega)))
     go_ret;exact ⟨_,rfl,.inl (by rw [HF.out];rfl),bel⟩
   · have HF : Hid (ckOb ⟨3, l⟩ = 3) := by simp [Hid, ckOb, hl.1, h]
     have hne : ¬ (n : Int) = 2 := by omega
     go_enter Tryz.func68, Tryz.ntmps68
     go_wp2_with fail;refine wp_region_belowI (by kernel_rfl) (by kernel_rfl) (fun _ _ d _ _ h => by cases d <;> exact h) ?_
     simp only [List.map_cons, List.map_nil, ldz, lds, bare, gslot, lcz, lcs, Option.bind_some]
     repeat' ((try simp only [Act.put,lsi,lsz,lss]);first | (refine lexL_quiet (v := ?_) wantB_none rfl ?_ ?_;rotate_left;focus (intro wq hq;obtain ⟨hcq,hfq⟩ := bcell hq;go_simp;try with_reducible rfl)) | (refine lexL_loud wantB_none rfl (fun K hK => ?_);go_simp;((first | (go_at_call 105;refine (verts_any _ _).mono ?_;rintro e w1 ⟨rfl,hb1⟩;obtain ⟨hc1,hf1⟩ := bcell hb1;have hz1 := hb1.size;(try simp at hz1);have hy0 : w.heap.size < w1.heap.size := (by omega)) | skip) <;> (refine hK.out _ _ bel ?_;clear hK K))))
     (all_goals try simp only [Act.put,lsi,lsz,lss]);all_goals (refine lexL_nil ?_)
     go_wp2;go_ret;exact ⟨_,rfl,.inl (by rw [HF.out];rfl),bel⟩
 by_cases k4 : k = 4
 · subst k4
   have HF : Hid (ckOb ⟨4,l⟩ = ckRing l) := by simp [Hid,ckOb]
   go_enter Tryz.func68, Tryz.ntmps68
   go_wp2_with (go_at_call 77;refine (check_any B n c A l _ (hl.tr bel hB) (Nat.le_trans hB (Below.size (B := w.heap.size) (w := w) bel)) hn).mono ?_;rintro e w1 ⟨v1,rfl,hv1,hb1⟩;obtain ⟨hc1,hf1⟩ := bcell hb1;have hz1 := hb1.size;(try simp at hz1))
   go_ret;exact ⟨_,rfl,.inr (by rw [HF.out];exact hv1),bel⟩
 · have HF : Hid (ckOb ⟨k,l⟩ = 5) := by simp [Hid,ckOb,k1,k2,k3,k4]
   go_enter Tryz.func68, Tryz.ntmps68
   go_wp2;go_ret;exact ⟨_,rfl,.inl (by rw [HF.out];rfl),bel⟩
theorem Check_any (B n c : Nat) (k : Int) (A : Option Addr) (l : List Pt) (w : World) (hl : PtsAt w B A n l) (hB : B ≤ w.heap.size) (hn : n ≤ 1000000) :
 Calls Tryz.prog 63 #[obV k A n c] w (RetW w (ckOb ⟨k,l⟩) ⟨#[111,98,106,101,99,116]⟩ k) := by
 go_enter Tryz.func63,Tryz.ntmps63
 go_wp2_with fail;refine wp_region_belowI (by kernel_rfl) (by kernel_rfl) (fun _ _ d _ _ h => by cases d <;> exact h) ?_
 simp only [List.map_cons,List.map_nil,ldz,lds,bare,gslot,lcz,lcs,Option.bind_some]
 repeat' ((try simp only [Act.put,lsi,lsz,lss]);first | (refine lexL_quiet (v := ?_) wantB_none rfl ?_ ?_;rotate_left;focus (intro wq hq;obtain ⟨hcq,hfq⟩ := bcell hq;go_simp;try with_reducible rfl)) | (refine lexL_loud wantB_none rfl (fun K hK => ?_);go_simp;((first | (go_at_call 68;refine (relcheck_any B n c k A l _ (hl.tr bel hB) (Nat.le_trans hB (Below.size (B := w.heap.size) (w := w) bel)) hn).mono ?_;rintro e w1 ⟨v1,rfl,hv1,hb1⟩;obtain ⟨hc1,hf1⟩ := bcell hb1;have hz1 := hb1.size;(try simp at hz1)) | (go_at_call 46;refine (wrap_any _ _ _ _ _ hv1).mono ?_;rintro e w2 ⟨v2,rfl,hv2,hb2⟩;obtain ⟨hc2,hf2⟩ := bcell hb2;have hz2 := hb2.size;(try simp at hz2)) | skip) <;> (refine hK.out _ _ bel ?_;clear hK K))))
 (all_goals try simp only [Act.put,lsi,lsz,lss]);all_goals (refine lexL_nil ?_)
 go_wp2;go_ret;exact ⟨_,rfl,hv2,bel⟩
abbrev quV (k : Int) (b : Bx) (A : Option Addr) (n c : Nat) : Value := .agg #[.int .i64 k,.int .i64 b.lo.x,.int .i64 b.lo.y,.int .i64 b.hi.x,.int .i64 b.hi.y,.slice A n c]
theorem nx_of {w : World} {B n b off k : Nat} {l : List Pt} (hl : PtsAt w B (some ⟨b,off,none⟩) n l) (hk : k < n) :
 w.cell? ⟨b,off + (k + 1) % n * 2,none⟩ = some (.int .i64 (nx l k).x) ∧ w.cell? ⟨b,off + (k + 1) % n * 2 + 1,none⟩ = some (.int .i64 (nx l k).y) := by
 obtain ⟨b',off',e,_,c0,c1⟩ := hl.at_ (k := (k + 1) % n) (Nat.mod_lt _ (by omega))
 injection e with e
 injection e with e1 e2
 subst e1 e2
 rw [nx,hl.1]
 exact ⟨c0,c1⟩
theorem step_of {k n : Nat} (hk : k < n) (hn : n ≤ 1000000) : ∃ m : Nat,(k + 1) % n = m ∧ IntKind.i64.wrap ((k : Int) + 1) = (k : Int) + 1 ∧ ((k : Int) + 1).tmod (n : Int) = (m : Int) ∧ m < n := by
 refine ⟨(k + 1) % n,rfl,IntWalk.i64_in _ (by omega),?_,Nat.mod_lt _ (by omega)⟩
 rw [Int.tmod_eq_emod_of_nonneg (by omega),Int.natCast_emod]
 rfl
theorem ck_lens {k : Int} {l : List Pt} (h : ckOb ⟨k,l⟩ = 0) : (k = 1 ∨ k = 2 → 1 ≤ l.length) ∧ (k = 3 → 2 ≤ l.length) ∧ l.length ≤ 64 ∧ (isBox ⟨k,l⟩ = false → ckRing l = 0) := by
 by_cases k1 : k = 1
 · subst k1
   have h1 : l.length = 1 := by
    by_cases e : l.length = 1
    · exact e
    · simp [ckOb, e] at h
   exact ⟨fun _ => by omega,fun h => by omega,by omega,fun hb => by simp [isBox] at hb⟩
 by_cases k2 : k = 2
 · subst k2
   have h1 : l.length = 1 := by
    by_cases e : l.length = 1
    · exact e
    · simp [ckOb, e] at h
   exact ⟨fun _ => by omega,fun h => by omega,by omega,fun hb => by simp [isBox] at hb⟩
 by_cases k3 : k = 3
 · subst k3
   have h1 : l.length = 2 := by
    by_cases e : l.length = 2
    · exact e
    · simp [ckOb, e] at h
   exact ⟨fun _ => by omega,fun h => by omega,by omega,fun hb => by simp [isBox] at hb⟩
 by_cases k4 : k = 4
 · subst k4
   have h4 : ckRing l = 0 := by simpa [ckOb] using h
   have := ck_len h4;exact ⟨fun _ => by omega,fun h => by omega,by omega,fun _ => h4⟩
 · simp [ckOb,k1,k2,k3,k4] at h
theorem relcheck_ok (B n c : Nat) (k : Int) (A : Option Addr) (l : List Pt) (w : World) (hl : PtsAt w B A n l) (hB : B ≤ w.heap.size) (hn : n ≤ 1000000) (h : ckOb ⟨k,l⟩ = 0) :
 Calls Tryz.prog 68 #[obV k A n c] w (Ret w .nilIface) := by
 refine (relcheck_any B n c k A l w hl hB hn).mono ?_;rintro e w' ⟨v,he,hv,hb⟩;rw [h] at hv;exact ⟨by rw [he,hv.zero],hb⟩
theorem relcheck_bad (B n c : Nat) (k : Int) (A : Option Addr) (l : List Pt) (w : World) (hl : PtsAt w B A n l) (hB : B ≤ w.heap.size) (hn : n ≤ 1000000) (h : ckOb ⟨k,l⟩ ≠ 0) :
 Calls Tryz.prog 68 #[obV k A n c] w fun e w' => ∃ t u,e = .returned (.iface t u) ∧ Below w.heap.size w w' := by
 refine (relcheck_any B n c k A l w hl hB hn).mono ?_;rintro e w' ⟨v,he,hv,hb⟩;obtain ⟨t,u,rfl⟩ := hv.succ h;exact ⟨t,u,he,hb⟩
end Go.Proofs.YtildgbhliaonnaaGreat
