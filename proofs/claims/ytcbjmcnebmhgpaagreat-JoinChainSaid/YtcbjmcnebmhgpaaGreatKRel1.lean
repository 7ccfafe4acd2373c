/-
  Contracts of package rel: box, verts, interval.
  Contracts of package rel: check, wrap, Check, query, CheckQuery.
  Contracts of package rel: cut.
  Contracts of package rel: rings.
  Contracts of package rel: meets, bounds, Match, Touch.
  Contracts of package rel: bounds, Match.
  Contracts of package rel: Match.
-/
import Derived.Test.YtcbjmcnebmhgpaaGreatKRing
import Derived.Test.YtcbjmcnebmhgpaaGreatKLex
import Derived.Test.YtcbjmcnebmhgpaaGreatKPlainSplit
set_option linter.unusedVariables false
set_option linter.unusedSimpArgs false
set_option maxHeartbeats 2000000
set_option maxRecDepth 20000
namespace Go.Proofs.YtcbjmcnebmhgpaaGreat
open Go.RowKit Pg
abbrev obV (k : Int) (A : Option Addr) (n c : Nat) : Value := .agg #[.int .i64 k,.slice A n c]
abbrev bxW (b : Bx) : Value := bxV b.lo.x b.lo.y b.hi.x b.hi.y
theorem box_any (B n c : Nat) (k : Int) (A : Option Addr) (l : List Pt) (w : World) (hl : PtsAt w B A n l) (hB : B ≤ w.heap.size) (h1 : k = 1 ∨ k = 2 → 1 ≤ n) (h2 : k = 3 → 2 ≤ n) :
 Calls Tryz.prog 73 #[obV k A n c] w (Ret w (.tuple #[bxW (obBox ⟨k,l⟩),.bool (isBox ⟨k,l⟩)])) := by
 by_cases k1 : k = 1
 · subst k1
   have hn := h1 (.inl rfl);obtain ⟨b,off,rfl,hab,c0,c1⟩ := hl.at_ (k := 0) hn;have hn' : 0 < n := by omega
   have hbw : b < w.heap.size := by omega
   have hbw1 : b < w.heap.size + 1 := by omega
   have hbw2 : b < w.heap.size + 1 + 1 := by omega
   simp only [Nat.zero_mul,Nat.add_zero] at c0 c1;have HR : Hid (obBox ⟨1,l⟩ = ⟨pt l 0,pt l 0⟩) := by simp [Hid,obBox]
   go_enter Tryz.func73, Tryz.ntmps73
   go_wp2_with fail;refine wp_region_belowB (w.heap.size + 1) [0,1,2,3,4,5,6,7,8,9,10] (by kernel_rfl) (by kernel_rfl) (fun _ _ d _ _ h => by cases d <;> exact h) ?_
   simp only [List.map_cons, List.map_nil, ldz, lds, bare, gslot, lcz, lcs, Option.bind_some]
   repeat' ((try simp only [Act.put,lsi,lsz,lss]);first | (refine lexL_quiet (v := ?_) wantB_none rfl ?_ ?_;rotate_left;focus (intro wq hq;obtain ⟨hcq,hfq⟩ := bcellB hq;go_simp;try with_reducible rfl)) | (refine lexL_loud wantB_none rfl (fun K hK => ?_);go_simp;((first | fail | skip) <;> (refine hK.out _ _ (by first | with_reducible exact swapB1 | with_reducible exact Below.drew swapB1 | exact bel) ?_;clear hK K))))
   (all_goals try simp only [Act.put,lsi,lsz,lss]);all_goals (refine lexL_nil ?_)
   go_wp2;exact bodyPost_ret (v := .tuple #[bxW (obBox ⟨1,l⟩),.bool (isBox ⟨1,l⟩)]) (by simp [results,Tryz.results73,go_sem,HR.out,isBox]) rfl ⟨rfl,bel⟩
 by_cases k2 : k = 2
 · subst k2
   have hn := h1 (.inr rfl);obtain ⟨b,off,rfl,hab,c0,c1⟩ := hl.at_ (k := 0) hn;have hn' : 0 < n := by omega
   have hbw : b < w.heap.size := by omega
   have hbw1 : b < w.heap.size + 1 := by omega
   have hbw2 : b < w.heap.size + 1 + 1 := by omega
   simp only [Nat.zero_mul,Nat.add_zero] at c0 c1;have HR : Hid (obBox ⟨2,l⟩ = ⟨⟨(pt l 0).x,0⟩,⟨(pt l 0).y,0⟩⟩) := by simp [Hid,obBox]
   go_enter Tryz.func73, Tryz.ntmps73
   go_wp2_with fail;refine wp_region_belowB (w.heap.size + 1) [0,1,2,3,4,5,6,7,8,9,10,11,12,13,14] (by kernel_rfl) (by kernel_rfl) (fun _ _ d _ _ h => by cases d <;> exact h) ?_
   simp only [List.map_cons, List.map_nil, ldz, lds, bare, gslot, lcz, lcs, Option.bind_some]
   repeat' ((try simp only [Act.put,lsi,lsz,lss]);first | (refine lexL_quiet (v := ?_) wantB_none rfl ?_ ?_;rotate_left;focus (intro wq hq;obtain ⟨hcq,hfq⟩ := bcellB hq;go_simp;try with_reducible rfl)) | (refine lexL_loud wantB_none rfl (fun K hK => ?_);go_simp;((first | fail | skip) <;> (refine hK.out _ _ (by first | with_reducible exact swapB1 | with_reducible exact Below.drew swapB1 | exact bel) ?_;clear hK K))))
   (all_goals try simp only [Act.put,lsi,lsz,lss]);all_goals (refine lexL_nil ?_)
   go_wp2;exact bodyPost_ret (v := .tuple #[bxW (obBox ⟨2,l⟩),.bool (isBox ⟨2,l⟩)]) (by simp [results,Tryz.results73,go_sem,HR.out,isBox]) rfl ⟨rfl,bel⟩
 by_cases k3 : k = 3
 · subst k3
   have hn := h2 rfl;obtain ⟨b,off,rfl,hab,c0,c1⟩ := hl.at_ (k := 0) (by omega)
   obtain ⟨b',off',he,hab',c2,c3⟩ := hl.at_ (k := 1) (by omega)
   injection he with he
   injection he with he1 he2
   subst he1 he2;have hn' : 0 < n := by omega
   have hn2 : 1 < n := by omega
   have hn3 : (1 : Int) < n := by omega
   have hbw : b < w.heap.size := by omega
   have hbw1 : b < w.heap.size + 1 := by omega
   have hbw2 : b < w.heap.size + 1 + 1 := by omega
   simp only [Nat.zero_mul,Nat.add_zero,Nat.one_mul] at c0 c1 c2 c3;have HR : Hid (obBox ⟨3,l⟩ = ⟨pt l 0,pt l 1⟩) := by simp [Hid,obBox]
   go_enter Tryz.func73, Tryz.ntmps73
   go_wp2_with fail;refine wp_region_belowB (w.heap.size + 1) [0,1,2,3,4,5,6,7,8,9,10] (by kernel_rfl) (by kernel_rfl) (fun _ _ d _ _ h => by cases d <;> exact h) ?_
   simp only [List.map_cons, List.map_nil, ldz, lds, bare, gslot, lcz, lcs, Option.bind_some]
   repeat' ((try simp only [Act.put,lsi,lsz,lss]);first | (refine lexL_quiet (v := ?_) wantB_none rfl ?_ ?_;rotate_left;focus (intro wq hq;obtain ⟨hcq,hfq⟩ := bcellB hq;go_simp;try with_reducible rfl)) | (refine lexL_loud wantB_none rfl (fun K hK => ?_);go_simp;((first | fail | skip) <;> (refine hK.out _ _ (by first | with_reducible exact swapB1 | with_reducible exact Below.drew swapB1 | exact bel) ?_;clear hK K))))
   (all_goals try simp only [Act.put,lsi,lsz,lss]);all_goals (refine lexL_nil ?_)
   go_wp2;exact bodyPost_ret (v := .tuple #[bxW (obBox ⟨3,l⟩),.bool (isBox ⟨3,l⟩)]) (by simp [results,Tryz.results73,go_sem,HR.out,isBox]) rfl ⟨rfl,bel⟩
 · have HR : Hid (obBox ⟨k,l⟩ = bzero) := by simp [Hid,obBox,k1,k2,k3]
   have HI : Hid (isBox ⟨k,l⟩ = false) := by simp [Hid,isBox,k1,k2,k3]
   go_enter Tryz.func73, Tryz.ntmps73
   go_wp2;exact bodyPost_ret (v := .tuple #[bxW (obBox ⟨k,l⟩),.bool (isBox ⟨k,l⟩)]) (by simp [results,Tryz.results73,go_sem,HR.out,HI.out,bzero]) rfl ⟨rfl,bel⟩
theorem verts_any (k : Int) (w : World) : Calls Tryz.prog 76 #[.int .i64 k] w (Ret w (.int .i64 (if k = 3 then 2 else 1))) := by
 by_cases h : k = 3
 all_goals
  go_enter Tryz.func76, Tryz.ntmps76
  go_wp2;go_ret;exact ⟨rfl,bel⟩
theorem interval_any (x y : Int) (w : World) : Calls Tryz.prog 77 #[ptV x y] w (Ret w (errV (ckInt ⟨x,y⟩))) := by
 cases h : okPt ⟨x,y⟩
 · have HE : Hid (errV (if okPt ⟨x,y⟩ = true then 0 else 2) = .iface 92 (.int .i64 2)) := by unfold Hid;rw [h];rfl
   have HF : Hid (ckInt ⟨x,y⟩ = 2) := by simp [Hid,ckInt,h]
   clear h
   go_enter Tryz.func77, Tryz.ntmps77
   go_wp2_with (go_at_call 94;refine (checkPoint_any _ _ _).mono ?_;rw [HE.out];rintro e w1 ⟨rfl,hb1⟩;obtain ⟨hc1,hf1⟩ := bcell hb1;have hz1 := hb1.size;(try simp at hz1);have hy0 : w.heap.size < w1.heap.size := (by omega))
   go_ret;exact ⟨by rw [HF.out];rfl,bel⟩
 · have HE : Hid (errV (if okPt ⟨x,y⟩ = true then 0 else 2) = .nilIface) := by unfold Hid;rw [h];rfl
   have HF : Hid (ckInt ⟨x,y⟩ = if y < x then 1 else 0) := by simp [Hid,ckInt,h]
   clear h
   by_cases hlt : y < x
   all_goals
    go_enter Tryz.func77, Tryz.ntmps77
    go_wp2_with (go_at_call 94;refine (checkPoint_any _ _ _).mono ?_;rw [HE.out];rintro e w1 ⟨rfl,hb1⟩;obtain ⟨hc1,hf1⟩ := bcell hb1;have hz1 := hb1.size;(try simp at hz1);have hy0 : w.heap.size < w1.heap.size := (by omega))
    go_ret;exact ⟨by rw [HF.out];first | (rw [if_pos (by omega)];rfl) | (rw [if_neg (by omega)];rfl),bel⟩
def ErrC (w : World) (v : Value) (k : Nat) : Prop := v = errV k ∨ ErrR w v k
def RetC (w : World) (k : Nat) : Ending → World → Prop := fun e w' => ∃ v,e = .returned v ∧ ErrC w' v k ∧ Below w.heap.size w w'
def ErrW (w : World) (v : Value) (k : Nat) (s : ByteArray) (id : Int) : Prop := (k = 0 ∧ v = .nilIface) ∨ (k ≠ 0 ∧ ∃ (g : Nat) (inner : Value),v = faultV g ∧ Blk w g 125 #[.string s,.int .i64 id,inner] ∧ ErrC w inner k)
def RetW (w : World) (k : Nat) (s : ByteArray) (id : Int) : Ending → World → Prop := fun e w' => ∃ v,e = .returned v ∧ ErrW w' v k s id ∧ Below w.heap.size w w'
theorem ErrR.alloc {w : World} {v : Value} {k : Nat} (h : ErrR w v k) (o : Obj) : ErrR (w.alloc o) v k := by
 rcases h with h | ⟨h0,g,s,id,e,hb⟩
 · exact .inl h
 · exact .inr ⟨h0,g,s,id,e,hb.alloc o⟩
theorem ErrC.alloc {w : World} {v : Value} {k : Nat} (h : ErrC w v k) (o : Obj) : ErrC (w.alloc o) v k := by
 rcases h with h | h
 · exact .inl h
 · exact .inr (h.alloc o)
theorem ErrC.zero {w : World} {v : Value} (h : ErrC w v 0) : v = .nilIface := by
 rcases h with h | ⟨_,h⟩ | ⟨h,_⟩
 · exact h
 · exact h
 · exact absurd rfl h
theorem ErrC.succ {w : World} {v : Value} {k : Nat} (h : ErrC w v k) (hk : k ≠ 0) : ∃ t u,v = .iface t u := by
 rcases h with h | ⟨h,_⟩ | ⟨_,g,s,id,e,hb⟩
 · cases k with
   | zero => exact absurd rfl hk
   | succ k => exact ⟨_, _, h⟩
 · exact absurd h hk
 · exact ⟨_,_,e⟩
theorem errV_ne {k : Nat} (hk : k ≠ 0) : errV k = .iface 92 (.int .i64 k) := by
 cases k with
 | zero => exact absurd rfl hk
 | succ k => rfl
theorem wrap_any (s : ByteArray) (id : Int) (v : Value) (k : Nat) (w : World) (hv : ErrC w v k) :
 Calls Tryz.prog 72 #[.string s,.int .i64 id,v] w (RetW w k s id) := by
 by_cases hk : k = 0
 · subst hk
   have := hv.zero;subst this
   go_enter Tryz.func72, Tryz.ntmps72
   go_wp2;go_ret;exact ⟨_,rfl,.inl ⟨rfl,rfl⟩,bel⟩
 · obtain ⟨t,u,rfl⟩ := hv.succ hk
   go_enter Tryz.func72, Tryz.ntmps72
   go_wp2;go_ret;exact ⟨_,rfl,.inr ⟨hk,_,_,rfl,Blk.new rfl rfl,hv.alloc _⟩,bel⟩
theorem relcheck_any (B n c : Nat) (k : Int) (A : Option Addr) (l : List Pt) (w : World) (hl : PtsAt w B A n l) (hB : B ≤ w.heap.size) (hn : n ≤ 1000000) :
 Calls Tryz.prog 52 #[obV k A n c] w (RetC w (ckOb ⟨k,l⟩)) := by
 by_cases k1 : k = 1
 · subst k1
   by_cases h : n = 1
   · subst h
     have HF : Hid (ckOb ⟨1,l⟩ = ckBox (obBox ⟨1,l⟩)) := by simp [Hid,ckOb,obBox,hl.1]
     go_enter Tryz.func52, Tryz.ntmps52
     go_wp2_with fail;refine wp_region_belowI (by kernel_rfl) (by kernel_rfl) (fun _ _ d _ _ h => by cases d <;> exact h) ?_
     simp only [List.map_cons, List.map_nil, ldz, lds, bare, gslot, lcz, lcs, Option.bind_some]
     repeat' ((try simp only [Act.put,lsi,lsz,lss]);first | (refine lexL_quiet (v := ?_) wantB_none rfl ?_ ?_;rotate_left;focus (intro wq hq;obtain ⟨hcq,hfq⟩ := bcell hq;go_simp;try with_reducible rfl)) | (refine lexL_loud wantB_none rfl (fun K hK => ?_);go_simp;((first | (go_at_call 76;refine (verts_any _ _).mono ?_;rintro e w1 ⟨rfl,hb1⟩;obtain ⟨hc1,hf1⟩ := bcell hb1;have hz1 := hb1.size;(try simp at hz1);have hy0 : w.heap.size < w1.heap.size := (by omega)) | skip) <;> (refine hK.out _ _ bel ?_;clear hK K))))
     (all_goals try simp only [Act.put,lsi,lsz,lss]);all_goals (refine lexL_nil ?_)
     go_wp2_with (first | (go_at_call 73;refine (box_any B 1 c 1 A l _ (hl.tr bel hB) (Nat.le_trans hB (Below.size (B := w.heap.size) (w := w) bel)) (by omega) (by omega)).mono ?_;rintro e w1 ⟨rfl,hb1⟩;obtain ⟨hc1,hf1⟩ := bcell hb1;have hz1 := hb1.size;(try simp at hz1);have hy0 : w.heap.size < w1.heap.size := (by omega)) | (go_at_call 75;refine (checkBox_any _ _ _ _ _).mono ?_;rintro e w1 ⟨rfl,hb1⟩;obtain ⟨hc1,hf1⟩ := bcell hb1;have hz1 := hb1.size;(try simp at hz1);have hy0 : w.heap.size < w1.heap.size := (by omega)))
     go_ret;exact ⟨_,rfl,.inl (by rw [HF.out];rfl),bel⟩
   · have HF : Hid (ckOb ⟨1, l⟩ = 3) := by simp [Hid, ckOb, hl.1, h]
     have hne : ¬ (n : Int) = 1 := by omega
     go_enter Tryz.func52, Tryz.ntmps52
     go_wp2_with fail;refine wp_region_belowI (by kernel_rfl) (by kernel_rfl) (fun _ _ d _ _ h => by cases d <;> exact h) ?_
     simp only [List.map_cons, List.map_nil, ldz, lds, bare, gslot, lcz, lcs, Option.bind_some]
     repeat' ((try simp only [Act.put,lsi,lsz,lss]);first | (refine lexL_quiet (v := ?_) wantB_none rfl ?_ ?_;rotate_left;focus (intro wq hq;obtain ⟨hcq,hfq⟩ := bcell hq;go_simp;try with_reducible rfl)) | (refine lexL_loud wantB_none rfl (fun K hK => ?_);go_simp;((first | (go_at_call 76;refine (verts_any _ _).mono ?_;rintro e w1 ⟨rfl,hb1⟩;obtain ⟨hc1,hf1⟩ := bcell hb1;have hz1 := hb1.size;(try simp at hz1);have hy0 : w.heap.size < w1.heap.size := (by omega)) | skip) <;> (refine hK.out _ _ bel ?_;clear hK K))))
     (all_goals try simp only [Act.put,lsi,lsz,lss]);all_goals (refine lexL_nil ?_)
     go_wp2;go_ret;exact ⟨_,rfl,.inl (by rw [HF.out];rfl),bel⟩
 by_cases k2 : k = 2
 · subst k2
   by_cases h : n = 1
   · subst h
     have HF : Hid (ckOb ⟨2,l⟩ = ckInt (pt l 0)) := by simp [Hid,ckOb,hl.1]
     obtain ⟨b,off,rfl,hab,c0,c1⟩ := hl.at_ (k := 0) (by omega)
     simp only [Nat.zero_mul,Nat.add_zero] at c0 c1;have hbw : b < w.heap.size := by omega
     have hbw1 : b < w.heap.size + 1 := by omega
     go_enter Tryz.func52, Tryz.ntmps52
     go_wp2_with fail;refine wp_region_belowI (by kernel_rfl) (by kernel_rfl) (fun _ _ d _ _ h => by cases d <;> exact h) ?_
     simp only [List.map_cons, List.map_nil, ldz, lds, bare, gslot, lcz, lcs, Option.bind_some]
     repeat' ((try simp only [Act.put,lsi,lsz,lss]);first | (refine lexL_quiet (v := ?_) wantB_none rfl ?_ ?_;rotate_left;focus (intro wq hq;obtain ⟨hcq,hfq⟩ := bcell hq;go_simp;try with_reducible rfl)) | (refine lexL_loud wantB_none rfl (fun K hK => ?_);go_simp;((first | (go_at_call 76;refine (verts_any _ _).mono ?_;rintro e w1 ⟨rfl,hb1⟩;obtain ⟨hc1,hf1⟩ := bcell hb1;have hz1 := hb1.size;(try simp at hz1);have hy0 : w.heap.size < w1.heap.size := (by omega)) | skip) <;> (refine hK.out _ _ bel ?_;clear hK K))))
     (all_goals try simp only [Act.put,lsi,lsz,lss]);all_goals (refine lexL_nil ?_)
     go_wp2_with (go_at_call 77;refine (interval_any _ _ _).mono ?_;rintro e w1 ⟨rfl,hb1⟩;obtain ⟨hc1,hf1⟩ := bcell hb1;have hz1 := hb1.size;(try simp at hz1);have hy0 : w.heap.size < w1.heap.size := (by omega))
     go_ret;exact ⟨_,rfl,.inl (by rw [HF.out];rfl),bel⟩
   · have HF : Hid (ckOb ⟨2, l⟩ = 3) := by simp [Hid, ckOb, hl.1, h]
     have hne : ¬ (n : Int) = 1 := by omega
     go_enter Tryz.func52, Tryz.ntmps52
     go_wp2_with fail;refine wp_region_belowI (by kernel_rfl) (by kernel_rfl) (fun _ _ d _ _ h => by cases d <;> exact h) ?_
     simp only [List.map_cons, List.map_nil, ldz, lds, bare, gslot, lcz, lcs, Option.bind_some]
     repeat' ((try simp only [Act.put,lsi,lsz,lss]);first | (refine lexL_quiet (v := ?_) wantB_none rfl ?_ ?_;rotate_left;focus (intro wq hq;obtain ⟨hcq,hfq⟩ := bcell hq;go_simp;try with_reducible rfl)) | (refine lexL_loud wantB_none rfl (fun K hK => ?_);go_simp;((first | (go_at_call 76;refine (verts_any _ _).mono ?_;rintro e w1 ⟨rfl,hb1⟩;obtain ⟨hc1,hf1⟩ := bcell hb1;have hz1 := hb1.size;(try simp at hz1);have hy0 : w.heap.size < w1.heap.size := (by omega)) | skip) <;> (refine hK.out _ _ bel ?_;clear hK K))))
     (all_goals try simp only [Act.put,lsi,lsz,lss]);all_goals (refine lexL_nil ?_)
     go_wp2;go_ret;exact ⟨_,rfl,.inl (by rw [HF.out];rfl),bel⟩
 by_cases k3 : k = 3
 · subst k3
   by_cases h : n = 2
   · subst h
     have HF : Hid (ckOb ⟨3,l⟩ = ckBox (obBox ⟨3,l⟩)) := by simp [Hid,ckOb,obBox,hl.1]
     go_enter Tryz.func52, Tryz.ntmps52
     go_wp2_with fail;refine wp_region_belowI (by kernel_rfl) (by kernel_rfl) (fun _ _ d _ _ h => by cases d <;> exact h) ?_
     simp only [List.map_cons, List.map_nil, ldz, lds, bare, gslot, lcz, lcs, Option.bind_some]
     repeat' ((try simp only [Act.put,lsi,lsz,lss]);first | (refine lexL_quiet (v := ?_) wantB_none rfl ?_ ?_;rotate_left;focus (intro wq hq;obtain ⟨hcq,hfq⟩ := bcell hq;go_simp;try with_reducible rfl)) | (refine lexL_loud wantB_none rfl (fun K hK => ?_);go_simp;((first | (go_at_call 76;refine (verts_any _ _).mono ?_;rintro e w1 ⟨rfl,hb1⟩;obtain ⟨hc1,hf1⟩ := bcell hb1;have hz1 := hb1.size;(try simp at hz1);have hy0 : w.heap.size < w1.heap.size := (by omega)) | skip) <;> (refine hK.out _ _ bel ?_;clear hK K))))
     (all_goals try simp only [Act.put,lsi,lsz,lss]);all_goals (refine lexL_nil ?_)
     go_wp2_with (first | (go_at_call 73;refine (box_any B 2 c 3 A l _ (hl.tr bel hB) (Nat.le_trans hB (Below.size (B := w.heap.size) (w := w) bel)) (by omega) (by omega)).mono ?_;rintro e w1 ⟨rfl,hb1⟩;obtain ⟨hc1,hf1⟩ := bcell hb1;have hz1 := hb1.size;(try simp at hz1);have hy0 : w.heap.size < w1.heap.size := (by omega)) | (go_at_call 75;refine (checkBox_any _ _ _ _ _).mono ?_;rintro e w1 ⟨rfl,hb1⟩;obtain ⟨hc1,hf1⟩ := bcell hb1;have hz1 := hb1.size;(try simp at hz1);have hy0 : w.heap.size < w1.heap.size := (by omega)))
     go_ret;exact ⟨_,rfl,.inl (by rw [HF.out];rfl),bel⟩
   · have HF : Hid (ckOb ⟨3, l⟩ = 3) := by simp [Hid, ckOb, hl.1, h]
     have hne : ¬ (n : Int) = 2 := by omega
     go_enter Tryz.func52, Tryz.ntmps52
     go_wp2_with fail;refine wp_region_belowI (by kernel_rfl) (by kernel_rfl) (fun _ _ d _ _ h => by cases d <;> exact h) ?_
     simp only [List.map_cons, List.map_nil, ldz, lds, bare, gslot, lcz, lcs, Option.bind_some]
     repeat' ((try simp only [Act.put,lsi,lsz,lss]);first | (refine lexL_quiet (v := ?_) wantB_none rfl ?_ ?_;rotate_left;focus (intro wq hq;obtain ⟨hcq,hfq⟩ := bcell hq;go_simp;try with_reducible rfl)) | (refine lexL_loud wantB_none rfl (fun K hK => ?_);go_simp;((first | (go_at_call 76;refine (verts_any _ _).mono ?_;rintro e w1 ⟨rfl,hb1⟩;obtain ⟨hc1,hf1⟩ := bcell hb1;have hz1 := hb1.size;(try simp at hz1);have hy0 : w.heap.size < w1.heap.size := (by omega)) | skip) <;> (refine hK.out _ _ bel ?_;clear hK K))))
     (all_goals try simp only [Act.put,lsi,lsz,lss]);all_goals (refine lexL_nil ?_)
     go_wp2;go_ret;exact ⟨_,rfl,.inl (by rw [HF.out];rfl),bel⟩
 by_cases k4 : k = 4
 · subst k4
   have HF : Hid (ckOb ⟨4,l⟩ = ckRing l) := by simp [Hid,ckOb]
   go_enter Tryz.func52, Tryz.ntmps52
   go_wp2_with (go_at_call 78;refine (check_any B n c A l _ (hl.tr bel hB) (Nat.le_trans hB (Below.size (B := w.heap.size) (w := w) bel)) hn).mono ?_;rintro e w1 ⟨v1,rfl,hv1,hb1⟩;obtain ⟨hc1,hf1⟩ := bcell hb1;have hz1 := hb1.size;(try simp at hz1))
   go_ret;exact ⟨_,rfl,.inr (by rw [HF.out];exact hv1),bel⟩
 · have HF : Hid (ckOb ⟨k,l⟩ = 5) := by simp [Hid,ckOb,k1,k2,k3,k4]
   go_enter Tryz.func52, Tryz.ntmps52
   go_wp2;go_ret;exact ⟨_,rfl,.inl (by rw [HF.out];rfl),bel⟩
theorem Check_any (B n c : Nat) (k : Int) (A : Option Addr) (l : List Pt) (w : World) (hl : PtsAt w B A n l) (hB : B ≤ w.heap.size) (hn : n ≤ 1000000) :
 Calls Tryz.prog 49 #[obV k A n c] w (RetW w (ckOb ⟨k,l⟩) ⟨#[111,98,106,101,99,116]⟩ k) := by
 go_enter Tryz.func49,Tryz.ntmps49
 go_wp2_with fail;refine wp_region_belowI (by kernel_rfl) (by kernel_rfl) (fun _ _ d _ _ h => by cases d <;> exact h) ?_
 simp only [List.map_cons,List.map_nil,ldz,lds,bare,gslot,lcz,lcs,Option.bind_some]
 repeat' ((try simp only [Act.put,lsi,lsz,lss]);first | (refine lexL_quiet (v := ?_) wantB_none rfl ?_ ?_;rotate_left;focus (intro wq hq;obtain ⟨hcq,hfq⟩ := bcell hq;go_simp;try with_reducible rfl)) | (refine lexL_loud wantB_none rfl (fun K hK => ?_);go_simp;((first | (go_at_call 52;refine (relcheck_any B n c k A l _ (hl.tr bel hB) (Nat.le_trans hB (Below.size (B := w.heap.size) (w := w) bel)) hn).mono ?_;rintro e w1 ⟨v1,rfl,hv1,hb1⟩;obtain ⟨hc1,hf1⟩ := bcell hb1;have hz1 := hb1.size;(try simp at hz1)) | (go_at_call 72;refine (wrap_any _ _ _ _ _ hv1).mono ?_;rintro e w2 ⟨v2,rfl,hv2,hb2⟩;obtain ⟨hc2,hf2⟩ := bcell hb2;have hz2 := hb2.size;(try simp at hz2)) | skip) <;> (refine hK.out _ _ bel ?_;clear hK K))))
 (all_goals try simp only [Act.put,lsi,lsz,lss]);all_goals (refine lexL_nil ?_)
 go_wp2;go_ret;exact ⟨_,rfl,hv2,bel⟩
theorem nx_of {w : World} {B n b off k : Nat} {l : List Pt} (hl : PtsAt w B (some ⟨b,off,none⟩) n l) (hk : k < n) :
 w.cell? ⟨b,off + (k + 1) % n * 2,none⟩ = some (.int .i64 (nx l k).x) ∧ w.cell? ⟨b,off + (k + 1) % n * 2 + 1,none⟩ = some (.int .i64 (nx l k).y) := by
 obtain ⟨b',off',e,_,c0,c1⟩ := hl.at_ (k := (k + 1) % n) (Nat.mod_lt _ (by omega))
 injection e with e
 injection e with e1 e2
 subst e1 e2
 rw [nx,hl.1]
 exact ⟨c0,c1⟩
theorem cutS_t {l : List Pt} {b : Bx} {k : Nat} (hk : k < l.length) (h : mbox (pt l k) (nx l k) b = true) : cutS l b = true := by
 unfold cutS
 rw [any_range_true _ (fun j => mbox (pt l j) (nx l j) b) k hk h]
 rfl
theorem step_of {k n : Nat} (hk : k < n) (hn : n ≤ 1000000) : ∃ m : Nat,(k + 1) % n = m ∧ IntKind.i64.wrap ((k : Int) + 1) = (k : Int) + 1 ∧ ((k : Int) + 1).tmod (n : Int) = (m : Int) ∧ m < n := by
 refine ⟨(k + 1) % n,rfl,IntWalk.i64_in _ (by omega),?_,Nat.mod_lt _ (by omega)⟩
 rw [Int.tmod_eq_emod_of_nonneg (by omega),Int.natCast_emod]
 rfl
theorem cut_any (B n c : Nat) (b0 : Bx) (A : Option Addr) (l : List Pt) (w : World) (hl : PtsAt w B A n l) (hB : B ≤ w.heap.size) (hn : n ≤ 1000000) :
 Calls Tryz.prog 79 #[.slice A n c,bxW b0] w (Ret w (.bool (cutS l b0))) := by
 go_enter Tryz.func79,Tryz.ntmps79
 go_wp2
 go_loopw [9] (fun i wr => ∃ k : Nat,k ≤ n ∧ i = .int .i64 k ∧ Hid (∀ j,j < k → mbox (pt l j) (nx l j) b0 = false) ∧ Blk wr w.heap.size 73 #[.int .i64 b0.lo.x,.int .i64 b0.lo.y,.int .i64 b0.hi.x,.int .i64 b0.hi.y] ∧ Below w.heap.size w wr) (fun i _ => n - (intOf i).toNat)
 case atStart => exact ⟨0,Nat.zero_le _,rfl,fun j hj => by omega,Blk.new rfl rfl,bel⟩
 case round =>
  obtain ⟨k,hk,rfl,hno,hP,hb⟩ := hrel
  by_cases hlt : k < n
  · obtain ⟨b, off, rfl, hab, c0, c1⟩ := (hl.below (hb.mono hB)).at_ hlt
    obtain ⟨c2,c3⟩ := nx_of (hl.below (hb.mono hB)) hlt;have hPl := hP.lt;have hPc := hP.cell;have hPl := hP.lt;have hbs := hb.size;have hbw : b < wr.heap.size := by omega
    have hbw1 : b < wr.heap.size + 1 := by omega
    have hpw1 : w.heap.size < wr.heap.size + 1 := by omega
    have hk0 : (k : Int) < (n : Int) := by omega
    obtain ⟨m,hm,hwr,htm,hml⟩ := step_of hlt hn;rw [hm] at c2 c3;clear hm;have hn0 : ¬ n = 0 := by omega
    have hml0 : (m : Int) < (n : Int) := by omega
    go_wp2_with fail;refine wp_region_belowI (by kernel_rfl) (by kernel_rfl) (fun _ _ d _ _ h => by cases d <;> exact h) ?_
    simp only [List.map_cons, List.map_nil, ldz, lds, bare, gslot, lcz, lcs, Option.bind_some]
    repeat' ((try simp only [Act.put,lsi,lsz,lss]);first | (refine lexL_quiet (v := ?_) wantB_none rfl ?_ ?_;rotate_left;focus (intro wq hq;obtain ⟨hcq,hfq⟩ := bcell hq;go_simp;try with_reducible rfl)) | (refine lexL_loud wantB_none rfl (fun K hK => ?_);go_simp;((first | (go_at_call 97;refine (meetsBox_any _ _ _ _ _ _ _ _ _).mono ?_;rintro e w1 ⟨rfl,hb1⟩;obtain ⟨hc1,hf1⟩ := bcell hb1;have hz1 := hb1.size;(try simp at hz1);have hy0 : w.heap.size < w1.heap.size := (by omega)) | skip) <;> (refine hK.out _ _ bel ?_;clear hK K))))
    (all_goals try simp only [Act.put,lsi,lsz,lss]);all_goals (refine lexL_nil ?_)
    go_wp2
    · go_ret
      exact ⟨ret_bool (cutS_t (by rw [hl.1];exact hlt) (by assumption)).symm,bel⟩
    · have hf : mbox ⟨(pt l k).x, (pt l k).y⟩ ⟨(nx l k).x, (nx l k).y⟩ ⟨⟨b0.lo.x, b0.lo.y⟩, ⟨b0.hi.x, b0.hi.y⟩⟩ = false := by first | assumption | (simpa using (by assumption : ¬ mbox ⟨(pt l k).x, (pt l k).y⟩ ⟨(nx l k).x, (nx l k).y⟩ ⟨⟨b0.lo.x, b0.lo.y⟩, ⟨b0.hi.x, b0.hi.y⟩⟩ = true))
      have HF := Lib.hid hf;clear hf
      go_roundw
      case rel => exact ⟨k + 1, by omega, by go_num, fun j hj => by
       by_cases e : j = k
       · subst e;exact HF.out
       · exact hno.out j (by omega), blkA, bel⟩
      case measure => simp [intOf];omega
  · have HF : Hid (cutS l b0 = rhas l b0.lo) := by
     have h : (List.range l.length).any (fun j => mbox (pt l j) (nx l j) b0) = false := any_range_false _ _ fun j hj => hno.out j (by rw [hl.1] at hj;omega)
     unfold Hid cutS
     rw [h];rfl
    have hPc := hP.cell;have hPl := hP.lt
    go_wp2_with (go_at_call 98;refine (rhas_any B n c _ _ A l _ (hl.tr bel hB) (Nat.le_trans hB (Below.size (B := w.heap.size) (w := w) bel)) hn).mono ?_;rintro e w1 ⟨rfl,hb1⟩;obtain ⟨hc1,hf1⟩ := bcell hb1;have hz1 := hb1.size;(try simp at hz1);have hy0 : w.heap.size < w1.heap.size := (by omega))
    go_ret;exact ⟨ret_bool HF.out.symm,bel⟩
theorem crossAny_t {a b : List Pt} {i k : Nat} (hi : i < a.length) (hk : k < b.length) (h : meetS (pt a i) (nx a i) (pt b k) (nx b k) = true) : crossAny a b = true :=
 any_range_true _ (fun i => (List.range b.length).any fun k => meetS (pt a i) (nx a i) (pt b k) (nx b k)) i hi (any_range_true _ (fun k => meetS (pt a i) (nx a i) (pt b k) (nx b k)) k hk h)
theorem crossAny_f {a b : List Pt} (h : ∀ i,i < a.length → ∀ k,k < b.length → meetS (pt a i) (nx a i) (pt b k) (nx b k) = false) : crossAny a b = false :=
 any_range_false _ _ fun i hi => any_range_false _ _ fun k hk => h i hi k hk
theorem rings_ok (B n c n' c' : Nat) (A A' : Option Addr) (l l' : List Pt) (w : World) (hl : PtsAt w B A n l) (hl' : PtsAt w B A' n' l') (hB : B ≤ w.heap.size) (hck : ckRing l = 0) (hck' : ckRing l' = 0) :
 Calls Tryz.prog 80 #[.slice A n c,.slice A' n' c'] w (Ret w (.bool (ringsS l l'))) := by
 have h3 : 3 ≤ n ∧ n ≤ 64 := by have := ck_len hck;rw [hl.1] at this;exact this
 have h3' : 3 ≤ n' ∧ n' ≤ 64 := by have := ck_len hck';rw [hl'.1] at this;exact this
 have HC := Lib.hid hck;have HC' := Lib.hid hck';clear hck hck'
 cases hm : bmeets ⟨⟨(ringBx l).lo.x,(ringBx l).lo.y⟩,⟨(ringBx l).hi.x,(ringBx l).hi.y⟩⟩ ⟨⟨(ringBx l').lo.x,(ringBx l').lo.y⟩,⟨(ringBx l').hi.x,(ringBx l').hi.y⟩⟩
 · have HM := Lib.hid hm
   clear hm;have HF : Hid (ringsS l l' = false) := by unfold Hid ringsS;rw [show bmeets (ringBx l) (ringBx l') = false from HM.out];rfl
   go_enter Tryz.func80, Tryz.ntmps80
   go_wp2_with (first | (go_at_call 74;have _hz := hz1;refine (ringBox_ok B n' c' A' l' _ (hl'.tr bel hB) (Nat.le_trans hB (Below.size (B := w.heap.size) (w := w) bel)) HC'.out).mono ?_;rintro e w2 ⟨rfl,hb2⟩;obtain ⟨hc2,hf2⟩ := bcell hb2;have hz2 := hb2.size;(try simp at hz2);have hy2 : w1.heap.size < w2.heap.size := (by omega)) | (go_at_call 74;refine (ringBox_ok B n c A l _ (hl.tr bel hB) (Nat.le_trans hB (Below.size (B := w.heap.size) (w := w) bel)) HC.out).mono ?_;rintro e w1 ⟨rfl,hb1⟩;obtain ⟨hc1,hf1⟩ := bcell hb1;have hz1 := hb1.size;(try simp at hz1)) | (go_at_call 25;refine (meets_any _ _ _ _ _ _ _ _ _).mono ?_;rw [HM.out];rintro e w1 ⟨rfl,hb1⟩;obtain ⟨hc1,hf1⟩ := bcell hb1;have hz1 := hb1.size;(try simp at hz1)))
   go_ret;exact ⟨ret_bool HF.out.symm,bel⟩
 · have HM := Lib.hid hm
   clear hm;have HF : Hid (ringsS l l' = (crossAny l l' || (rhas l (pt l' 0) || rhas l' (pt l 0)))) := by unfold Hid ringsS;rw [show bmeets (ringBx l) (ringBx l') = true from HM.out];rfl
   go_enter Tryz.func80, Tryz.ntmps80
   go_wp2_with (first | (go_at_call 74;have _hz := hz1;refine (ringBox_ok B n' c' A' l' _ (hl'.tr bel hB) (Nat.le_trans hB (Below.size (B := w.heap.size) (w := w) bel)) HC'.out).mono ?_;rintro e w2 ⟨rfl,hb2⟩;obtain ⟨hc2,hf2⟩ := bcell hb2;have hz2 := hb2.size;(try simp at hz2);have hy2 : w1.heap.size < w2.heap.size := (by omega)) | (go_at_call 74;refine (ringBox_ok B n c A l _ (hl.tr bel hB) (Nat.le_trans hB (Below.size (B := w.heap.size) (w := w) bel)) HC.out).mono ?_;rintro e w1 ⟨rfl,hb1⟩;obtain ⟨hc1,hf1⟩ := bcell hb1;have hz1 := hb1.size;(try simp at hz1)) | (go_at_call 25;refine (meets_any _ _ _ _ _ _ _ _ _).mono ?_;rw [HM.out];rintro e w1 ⟨rfl,hb1⟩;obtain ⟨hc1,hf1⟩ := bcell hb1;have hz1 := hb1.size;(try simp at hz1)))
   have hb0 : Below w.heap.size w w1 := bel;clear hb1 hc1 hf1 hb2 hc2 hf2 _hz hz1;have hd1 : decide ((1 : Int) ≤ 0) = false := rfl
   go_loopw [29] (fun i wr => ∃ k : Nat, k ≤ n ∧ i = .int .i64 k ∧ Hid (∀ j, j < k → ∀ m, m < n' → meetS (pt l j) (nx l j) (pt l' m) (nx l' m) = false) ∧ Below w.heap.size w wr) (fun i _ => n - (intOf i).toNat)
   case atStart => exact ⟨0, Nat.zero_le _, rfl, fun j hj => by omega, hb0⟩
   case round =>
    obtain ⟨k,hk,rfl,hno,hb⟩ := hrel
    by_cases hlt : k < n
    · obtain ⟨b, off, rfl, hab, c0, c1⟩ := (hl.below (hb.mono hB)).at_ hlt
      have hbs := hb.size;have hbw : b < wr.heap.size := by omega
      have hk0 : (k : Int) < (n : Int) := by omega
      obtain ⟨wo,hwo⟩ : ∃ wo : World,wo = wr := ⟨_,rfl⟩;subst hwo;go_wp2
      go_loopw [36] (fun i wr => ∃ m : Nat, m ≤ n' ∧ i = .int .i64 m ∧ Hid (∀ j, j < m → meetS (pt l k) (nx l k) (pt l' j) (nx l' j) = false) ∧ Blk wr wo.heap.size 47 #[.int .i64 (pt l k).x, .int .i64 (pt l k).y] ∧ Below w.heap.size w wr) (fun i _ => n' - (intOf i).toNat)
      case atStart => exact ⟨0, Nat.zero_le _, rfl, fun j hj => by omega, Blk.new rfl rfl, bel⟩
      case round =>
       obtain ⟨q,hq,rfl,hnq,hP,hb3⟩ := hrel
       by_cases hqt : q < n'
       · obtain ⟨b', off', rfl, hab', d0, d1⟩ := (hl'.below (hb3.mono hB)).at_ hqt
         obtain ⟨c2,c3⟩ := nx_of (hl.below (hb3.mono hB)) hlt;obtain ⟨d2,d3⟩ := nx_of (hl'.below (hb3.mono hB)) hqt;have hPl := hP.lt;have hPc := hP.cell;have hbs3 := hb3.size;have hbw0 : b < wr.heap.size := by omega
         have hbw1 : b < wr.heap.size + 1 := by omega
         have hbw2 : b' < wr.heap.size := by omega
         have hbw3 : b' < wr.heap.size + 1 := by omega
         have hpw1 : wo.heap.size < wr.heap.size + 1 := by omega
         have hq0 : (q : Int) < (n' : Int) := by omega
         obtain ⟨m,hm,hwr,htm,hml⟩ := step_of hlt (by omega)
         rw [hm] at c2 c3;clear hm;obtain ⟨m',hm',hwr',htm',hml'⟩ := step_of hqt (by omega)
         rw [hm'] at d2 d3;clear hm';have hn0 : ¬ n = 0 := by omega
         have hn0' : ¬ n' = 0 := by omega
         have hml0 : (m : Int) < (n : Int) := by omega
         have hml0' : (m' : Int) < (n' : Int) := by omega
         go_wp2_with fail;refine wp_region_belowI (by kernel_rfl) (by kernel_rfl) (fun _ _ d _ _ h => by cases d <;> exact h) ?_
         simp only [List.map_cons, List.map_nil, ldz, lds, bare, gslot, lcz, lcs, Option.bind_some]
         repeat' ((try simp only [Act.put,lsi,lsz,lss]);first | (refine lexL_quiet (v := ?_) wantB_none rfl ?_ ?_;rotate_left;focus (intro wq hq;obtain ⟨hcq,hfq⟩ := bcell hq;go_simp;try with_reducible rfl)) | (refine lexL_loud wantB_none rfl (fun K hK => ?_);go_simp;((first | (go_at_call 99;refine (meet_any _ _ _ _ _ _ _ _ _).mono ?_;rintro e w1 ⟨rfl,hb1⟩;obtain ⟨hc1,hf1⟩ := bcell hb1;have hz1 := hb1.size;(try simp at hz1)) | skip) <;> (refine hK.out _ _ bel ?_;clear hK K))))
         (all_goals try simp only [Act.put,lsi,lsz,lss]);all_goals (refine lexL_nil ?_)
         go_wp2
         · go_ret
           exact ⟨ret_bool (by rw [HF.out,crossAny_t (i := k) (k := q) (by rw [hl.1];exact hlt) (by rw [hl'.1];exact hqt) (by assumption)];rfl),bel⟩
         · have hf : meetS ⟨(pt l k).x, (pt l k).y⟩ ⟨(nx l k).x, (nx l k).y⟩ ⟨(pt l' q).x, (pt l' q).y⟩ ⟨(nx l' q).x, (nx l' q).y⟩ = false := by first | assumption | (simpa using (by assumption : ¬ meetS ⟨(pt l k).x, (pt l k).y⟩ ⟨(nx l k).x, (nx l k).y⟩ ⟨(pt l' q).x, (pt l' q).y⟩ ⟨(nx l' q).x, (nx l' q).y⟩ = true))
           have HN := Lib.hid hf;clear hf
           go_roundw
           case rel => exact ⟨q + 1, by omega, by go_num, fun j hj => by
            by_cases e : j = q
            · subst e;exact HN.out
            · exact hnq.out j (by omega), blkA, bel⟩
           case measure => simp [intOf];omega
       · go_wp2
         go_roundw
         case rel => exact ⟨k + 1, by omega, by go_num, fun j hj p hp => by
          by_cases e : j = k
          · subst e;exact hnq.out p (by omega)
          · exact hno.out j (by omega) p hp, bel⟩
         case measure => simp [intOf];omega
    · have HG : Hid (ringsS l l' = (rhas l (pt l' 0) || rhas l' (pt l 0))) := by
       unfold Hid
       rw [HF.out,crossAny_f (fun i hi p hp => hno.out i (by rw [hl.1] at hi;omega) p (by rw [← hl'.1];exact hp))]
       rfl
      obtain ⟨b,off,rfl,hab,c0,c1⟩ := (hl.below (hb.mono hB)).at_ (k := 0) (by omega)
      obtain ⟨b',off',rfl,hab',d0,d1⟩ := (hl'.below (hb.mono hB)).at_ (k := 0) (by omega)
      simp only [Nat.zero_mul,Nat.add_zero] at c0 c1 d0 d1;have hbs := hb.size;have hbw : b < wr.heap.size := by omega
      have hbw' : b' < wr.heap.size := by omega
      have hn1 : 0 < n := by omega
      have hn1' : 0 < n' := by omega
      go_wp2_with (first | (go_at_call 98;have _hz := hza;refine (rhas_any B n' c' _ _ _ l' _ (hl'.tr bel hB) (Nat.le_trans hB (Below.size (B := w.heap.size) (w := w) bel)) (by omega)).mono ?_;rintro e w1 ⟨rfl,hb1⟩;obtain ⟨hc1,hf1⟩ := bcell hb1;have hz1 := hb1.size;(try simp at hz1)) | (go_at_call 98;refine (rhas_any B n c _ _ _ l _ (hl.tr bel hB) (Nat.le_trans hB (Below.size (B := w.heap.size) (w := w) bel)) (by omega)).mono ?_;rintro e wa ⟨rfl,hba⟩;obtain ⟨hca,hfa⟩ := bcell hba;have hza := hba.size;(try simp at hza)))
      all_goals go_ret
      all_goals exact ⟨ret_bool (by rw [HG.out];first | (rw [show rhas l (pt l' 0) = true by assumption];rfl) | (rw [show rhas l (pt l' 0) = false from Bool.eq_false_iff.2 (by assumption)];rfl)),bel⟩
theorem ck_lens {k : Int} {l : List Pt} (h : ckOb ⟨k,l⟩ = 0) : (k = 1 ∨ k = 2 → 1 ≤ l.length) ∧ (k = 3 → 2 ≤ l.length) ∧ l.length ≤ 64 ∧ (isBox ⟨k,l⟩ = false → ckRing l = 0) := by
 by_cases k1 : k = 1
 · subst k1
   have h1 : l.length = 1 := by
    by_cases e : l.length = 1
    · exact e
    · simp [ckOb, e] at h
   exact ⟨fun _ => by omega,fun h => by omega,by omega,fun hb => by simp [isBox] at hb⟩
 by_cases k2 : k = 2
 · subst k2
   have h1 : l.length = 1 := by
    by_cases e : l.length = 1
    · exact e
    · simp [ckOb, e] at h
   exact ⟨fun _ => by omega,fun h => by omega,by omega,fun hb => by simp [isBox] at hb⟩
 by_cases k3 : k = 3
 · subst k3
   have h1 : l.length = 2 := by
    by_cases e : l.length = 2
    · exact e
    · simp [ckOb, e] at h
   exact ⟨fun _ => by omega,fun h => by omega,by omega,fun hb => by simp [isBox] at hb⟩
 by_cases k4 : k = 4
 · subst k4
   have h4 : ckRing l = 0 := by simpa [ckOb] using h
   have := ck_len h4;exact ⟨fun _ => by omega,fun h => by omega,by omega,fun _ => h4⟩
 · simp [ckOb,k1,k2,k3,k4] at h
theorem meets_ok (B n c n' c' : Nat) (k k' : Int) (A A' : Option Addr) (l l' : List Pt) (w : World) (hl : PtsAt w B A n l) (hl' : PtsAt w B A' n' l') (hB : B ≤ w.heap.size) (hck : ckOb ⟨k,l⟩ = 0) (hck' : ckOb ⟨k',l'⟩ = 0) :
 Calls Tryz.prog 53 #[obV k A n c,obV k' A' n' c'] w (Ret w (.bool (meetsO ⟨k,l⟩ ⟨k',l'⟩))) := by
 obtain ⟨p1,p2,p3,p4⟩ := ck_lens hck;obtain ⟨q1,q2,q3,q4⟩ := ck_lens hck';rw [hl.1] at p1 p2 p3;rw [hl'.1] at q1 q2 q3
 cases hx : isBox ⟨k,l⟩ <;> cases hy : isBox ⟨k',l'⟩
 · have HX := Lib.hid hx
   have HY := Lib.hid hy;have HF : Hid (meetsO ⟨k,l⟩ ⟨k',l'⟩ = ringsS l l') := by simp [Hid,meetsO,hx,hy]
   have P4 := Lib.hid (p4 hx);have Q4 := Lib.hid (q4 hy);clear hx hy p4 q4
   go_enter Tryz.func53, Tryz.ntmps53
   go_wp2_with (first | (go_at_call 73;have _hz := hza;refine (box_any B n' c' k' A' l' _ (hl'.tr bel hB) (Nat.le_trans hB (Below.size (B := w.heap.size) (w := w) bel)) (by assumption) (by assumption)).mono ?_;rw [HY.out];rintro e w1 ⟨rfl,hb1⟩;obtain ⟨hc1,hf1⟩ := bcell hb1;have hz1 := hb1.size;(try simp at hz1);have hy0 : w.heap.size < w1.heap.size := (by omega);have hy1 : w.heap.size + 1 < w1.heap.size := (by omega)) | (go_at_call 73;refine (box_any B n c k A l _ (hl.tr bel hB) (Nat.le_trans hB (Below.size (B := w.heap.size) (w := w) bel)) (by assumption) (by assumption)).mono ?_;rw [HX.out];rintro e wa ⟨rfl,hba⟩;obtain ⟨hca,hfa⟩ := bcell hba;have hza := hba.size;(try simp at hza);have hy0 : w.heap.size < wa.heap.size := (by omega);have hy1 : w.heap.size + 1 < wa.heap.size := (by omega)) | (go_at_call 80;refine (rings_ok B n c n' c' A A' l l' _ (hl.tr bel hB) (hl'.tr bel hB) (Nat.le_trans hB (Below.size (B := w.heap.size) (w := w) bel)) P4.out Q4.out).mono ?_;rintro e w1 ⟨rfl,hb1⟩;obtain ⟨hc1,hf1⟩ := bcell hb1;have hz1 := hb1.size;(try simp at hz1);have hy0 : w.heap.size < w1.heap.size := (by omega);have hy1 : w.heap.size + 1 < w1.heap.size := (by omega)))
   go_ret;exact ⟨ret_bool HF.out.symm,bel⟩
 · have HX := Lib.hid hx
   have HY := Lib.hid hy;have HF : Hid (meetsO ⟨k,l⟩ ⟨k',l'⟩ = cutS l (obBox ⟨k',l'⟩)) := by simp [Hid,meetsO,hx,hy]
   clear hx hy p4 q4
   go_enter Tryz.func53, Tryz.ntmps53
   go_wp2_with (first | (go_at_call 73;have _hz := hza;refine (box_any B n' c' k' A' l' _ (hl'.tr bel hB) (Nat.le_trans hB (Below.size (B := w.heap.size) (w := w) bel)) (by assumption) (by assumption)).mono ?_;rw [HY.out];rintro e w1 ⟨rfl,hb1⟩;obtain ⟨hc1,hf1⟩ := bcell hb1;have hz1 := hb1.size;(try simp at hz1);have hy0 : w.heap.size < w1.heap.size := (by omega);have hy1 : w.heap.size + 1 < w1.heap.size := (by omega);have hya : wa.heap.size < w1.heap.size := (by omega)) | (go_at_call 73;refine (box_any B n c k A l _ (hl.tr bel hB) (Nat.le_trans hB (Below.size (B := w.heap.size) (w := w) bel)) (by assumption) (by assumption)).mono ?_;rw [HX.out];rintro e wa ⟨rfl,hba⟩;obtain ⟨hca,hfa⟩ := bcell hba;have hza := hba.size;(try simp at hza);have hy0 : w.heap.size < wa.heap.size := (by omega);have hy1 : w.heap.size + 1 < wa.heap.size := (by omega)) | (go_at_call 79;refine (cut_any B n c (obBox ⟨k',l'⟩) A l _ (hl.tr bel hB) (Nat.le_trans hB (Below.size (B := w.heap.size) (w := w) bel)) (by omega)).mono ?_;rintro e w1 ⟨rfl,hb1⟩;obtain ⟨hc1,hf1⟩ := bcell hb1;have hz1 := hb1.size;(try simp at hz1);have hy0 : w.heap.size < w1.heap.size := (by omega);have hy1 : w.heap.size + 1 < w1.heap.size := (by omega)))
   go_ret;exact ⟨ret_bool HF.out.symm,bel⟩
 · have HX := Lib.hid hx
   have HY := Lib.hid hy;have HF : Hid (meetsO ⟨k,l⟩ ⟨k',l'⟩ = cutS l' (obBox ⟨k,l⟩)) := by simp [Hid,meetsO,hx,hy]
   clear hx hy p4 q4
   go_enter Tryz.func53, Tryz.ntmps53
   go_wp2_with (first | (go_at_call 73;have _hz := hza;refine (box_any B n' c' k' A' l' _ (hl'.tr bel hB) (Nat.le_trans hB (Below.size (B := w.heap.size) (w := w) bel)) (by assumption) (by assumption)).mono ?_;rw [HY.out];rintro e w1 ⟨rfl,hb1⟩;obtain ⟨hc1,hf1⟩ := bcell hb1;have hz1 := hb1.size;(try simp at hz1);have hy0 : w.heap.size < w1.heap.size := (by omega);have hy1 : w.heap.size + 1 < w1.heap.size := (by omega);have hya : wa.heap.size < w1.heap.size := (by omega)) | (go_at_call 73;refine (box_any B n c k A l _ (hl.tr bel hB) (Nat.le_trans hB (Below.size (B := w.heap.size) (w := w) bel)) (by assumption) (by assumption)).mono ?_;rw [HX.out];rintro e wa ⟨rfl,hba⟩;obtain ⟨hca,hfa⟩ := bcell hba;have hza := hba.size;(try simp at hza);have hy0 : w.heap.size < wa.heap.size := (by omega);have hy1 : w.heap.size + 1 < wa.heap.size := (by omega)) | (go_at_call 79;refine (cut_any B n' c' (obBox ⟨k,l⟩) A' l' _ (hl'.tr bel hB) (Nat.le_trans hB (Below.size (B := w.heap.size) (w := w) bel)) (by omega)).mono ?_;rintro e w1 ⟨rfl,hb1⟩;obtain ⟨hc1,hf1⟩ := bcell hb1;have hz1 := hb1.size;(try simp at hz1);have hy0 : w.heap.size < w1.heap.size := (by omega);have hy1 : w.heap.size + 1 < w1.heap.size := (by omega)))
   go_ret;exact ⟨ret_bool HF.out.symm,bel⟩
 · have HX := Lib.hid hx
   have HY := Lib.hid hy;have HF : Hid (meetsO ⟨k,l⟩ ⟨k',l'⟩ = bmeets (obBox ⟨k,l⟩) (obBox ⟨k',l'⟩)) := by simp [Hid,meetsO,hx,hy]
   clear hx hy p4 q4
   go_enter Tryz.func53, Tryz.ntmps53
   go_wp2_with (first | (go_at_call 73;have _hz := hza;refine (box_any B n' c' k' A' l' _ (hl'.tr bel hB) (Nat.le_trans hB (Below.size (B := w.heap.size) (w := w) bel)) (by assumption) (by assumption)).mono ?_;rw [HY.out];rintro e w1 ⟨rfl,hb1⟩;obtain ⟨hc1,hf1⟩ := bcell hb1;have hz1 := hb1.size;(try simp at hz1);have hy0 : w.heap.size < w1.heap.size := (by omega);have hy1 : w.heap.size + 1 < w1.heap.size := (by omega);have hya : wa.heap.size < w1.heap.size := (by omega)) | (go_at_call 73;refine (box_any B n c k A l _ (hl.tr bel hB) (Nat.le_trans hB (Below.size (B := w.heap.size) (w := w) bel)) (by assumption) (by assumption)).mono ?_;rw [HX.out];rintro e wa ⟨rfl,hba⟩;obtain ⟨hca,hfa⟩ := bcell hba;have hza := hba.size;(try simp at hza);have hy0 : w.heap.size < wa.heap.size := (by omega);have hy1 : w.heap.size + 1 < wa.heap.size := (by omega)) | (go_at_call 25;refine (meets_any _ _ _ _ _ _ _ _ _).mono ?_;rintro e w1 ⟨rfl,hb1⟩;obtain ⟨hc1,hf1⟩ := bcell hb1;have hz1 := hb1.size;(try simp at hz1);have hy0 : w.heap.size < w1.heap.size := (by omega);have hy1 : w.heap.size + 1 < w1.heap.size := (by omega)))
   go_ret;exact ⟨ret_bool HF.out.symm,bel⟩
theorem bounds_ok (B n c : Nat) (k : Int) (A : Option Addr) (l : List Pt) (w : World) (hl : PtsAt w B A n l) (hB : B ≤ w.heap.size) (hck : ckOb ⟨k,l⟩ = 0) :
 Calls Tryz.prog 50 #[obV k A n c] w (Ret w (bxW (boundsS ⟨k,l⟩))) := by
 obtain ⟨p1,p2,p3,p4⟩ := ck_lens hck;rw [hl.1] at p1 p2 p3
 cases hx : isBox ⟨k,l⟩
 · have HX := Lib.hid hx
   have HF : Hid (boundsS ⟨k,l⟩ = ringBx l) := by simp [Hid,boundsS,hx]
   have P4 := Lib.hid (p4 hx);clear hx p4
   go_enter Tryz.func50, Tryz.ntmps50
   go_wp2_with (first | (go_at_call 73;refine (box_any B n c k A l _ (hl.tr bel hB) (Nat.le_trans hB (Below.size (B := w.heap.size) (w := w) bel)) (by assumption) (by assumption)).mono ?_;rw [HX.out];rintro e wa ⟨rfl,hba⟩;obtain ⟨hca,hfa⟩ := bcell hba;have hza := hba.size;(try simp at hza);have hy0 : w.heap.size < wa.heap.size := (by omega);have hy1 : w.heap.size + 1 < wa.heap.size := (by omega)) | (go_at_call 74;refine (ringBox_ok B n c A l _ (hl.tr bel hB) (Nat.le_trans hB (Below.size (B := w.heap.size) (w := w) bel)) P4.out).mono ?_;rintro e w1 ⟨rfl,hb1⟩;obtain ⟨hc1,hf1⟩ := bcell hb1;have hz1 := hb1.size;(try simp at hz1);have hy2 : w.heap.size < w1.heap.size := (by omega);have hy3 : w.heap.size + 1 < w1.heap.size := (by omega);have hya : wa.heap.size < w1.heap.size := (by omega)))
   have hQ : Blk w1 (w.heap.size + 1) 73 #[.int .i64 0,.int .i64 0,.int .i64 0,.int .i64 0] := blkA;have HR := (Blk.set_ (Blk.set_ (Blk.set_ (Blk.set_ (Blk.far (Blk.far (Blk.far (Blk.far hQ (p := ⟨wa.heap.size,0,none⟩) (by simp;omega) (.int .i64 (ringBx l).lo.x)) (p := ⟨wa.heap.size,1,none⟩) (by simp;omega) (.int .i64 (ringBx l).lo.y)) (p := ⟨wa.heap.size,2,none⟩) (by simp;omega) (.int .i64 (ringBx l).hi.x)) (p := ⟨wa.heap.size,3,none⟩) (by simp;omega) (.int .i64 (ringBx l).hi.y)) 0 (.int .i64 (ringBx l).lo.x)) 1 (.int .i64 (ringBx l).lo.y)) 2 (.int .i64 (ringBx l).hi.x)) 3 (.int .i64 (ringBx l).hi.y))
   have r0 := HR.cell 0;have r1 := HR.cell 1;have r2 := HR.cell 2;have r3 := HR.cell 3
   simp at r0 r1 r2 r3
   exact bodyPost_ret (v := bxW (ringBx l)) (by simp [results,Tryz.results50,go_sem,r0,r1,r2,r3]) rfl ⟨by rw [HF.out],bel⟩
 · have HX := Lib.hid hx
   have HF : Hid (boundsS ⟨k,l⟩ = obBox ⟨k,l⟩) := by simp [Hid,boundsS,hx]
   clear hx p4
   go_enter Tryz.func50, Tryz.ntmps50
   go_wp2_with (first | (go_at_call 73;refine (box_any B n c k A l _ (hl.tr bel hB) (Nat.le_trans hB (Below.size (B := w.heap.size) (w := w) bel)) (by assumption) (by assumption)).mono ?_;rw [HX.out];rintro e wa ⟨rfl,hba⟩;obtain ⟨hca,hfa⟩ := bcell hba;have hza := hba.size;(try simp at hza);have hy0 : w.heap.size < wa.heap.size := (by omega);have hy1 : w.heap.size + 1 < wa.heap.size := (by omega)))
   have hQ : Blk wa (w.heap.size + 1) 73 #[.int .i64 0,.int .i64 0,.int .i64 0,.int .i64 0] := blkA;have HR := Blk.alloc (Blk.set_ (Blk.set_ (Blk.set_ (Blk.set_ hQ 0 (.int .i64 (obBox ⟨k,l⟩).lo.x)) 1 (.int .i64 (obBox ⟨k,l⟩).lo.y)) 2 (.int .i64 (obBox ⟨k,l⟩).hi.x)) 3 (.int .i64 (obBox ⟨k,l⟩).hi.y)) (.cells #[.int .i64 (obBox ⟨k,l⟩).lo.x,.int .i64 (obBox ⟨k,l⟩).lo.y,.int .i64 (obBox ⟨k,l⟩).hi.x,.int .i64 (obBox ⟨k,l⟩).hi.y] 73);have r0 := HR.cell 0;have r1 := HR.cell 1;have r2 := HR.cell 2;have r3 := HR.cell 3
   simp at r0 r1 r2 r3
   exact bodyPost_ret (v := bxW (obBox ⟨k,l⟩)) (by simp [results,Tryz.results50,go_sem,r0,r1,r2,r3]) rfl ⟨by rw [HF.out],bel⟩
theorem relcheck_ok (B n c : Nat) (k : Int) (A : Option Addr) (l : List Pt) (w : World) (hl : PtsAt w B A n l) (hB : B ≤ w.heap.size) (hn : n ≤ 1000000) (h : ckOb ⟨k,l⟩ = 0) :
 Calls Tryz.prog 52 #[obV k A n c] w (Ret w .nilIface) := by
 refine (relcheck_any B n c k A l w hl hB hn).mono ?_;rintro e w' ⟨v,he,hv,hb⟩;rw [h] at hv;exact ⟨by rw [he,hv.zero],hb⟩
theorem relcheck_bad (B n c : Nat) (k : Int) (A : Option Addr) (l : List Pt) (w : World) (hl : PtsAt w B A n l) (hB : B ≤ w.heap.size) (hn : n ≤ 1000000) (h : ckOb ⟨k,l⟩ ≠ 0) :
 Calls Tryz.prog 52 #[obV k A n c] w fun e w' => ∃ t u,e = .returned (.iface t u) ∧ Below w.heap.size w w' := by
 refine (relcheck_any B n c k A l w hl hB hn).mono ?_;rintro e w' ⟨v,he,hv,hb⟩;obtain ⟨t,u,rfl⟩ := hv.succ h;exact ⟨t,u,he,hb⟩
theorem pts2 {w : World} {g : Nat} {p q : Pt} {t : TypeId} (h : Blk w g t #[.int .i64 p.x,.int .i64 p.y,.int .i64 q.x,.int .i64 q.y]) : PtsAt w w.heap.size (some ⟨g,0,none⟩) 2 [p,q] :=
 ⟨rfl,fun _ => ⟨g,0,rfl,h.lt,fun k r hr => by
  match k, hr with
  | 0, hr =>
    simp at hr
    subst hr;exact ⟨by rw [h.cell];rfl,by rw [h.cell];rfl⟩
  | 1, hr =>
    simp at hr
    subst hr
    exact ⟨by rw [h.cell];rfl,by rw [h.cell];rfl⟩⟩⟩
end Go.Proofs.YtcbjmcnebmhgpaaGreat
