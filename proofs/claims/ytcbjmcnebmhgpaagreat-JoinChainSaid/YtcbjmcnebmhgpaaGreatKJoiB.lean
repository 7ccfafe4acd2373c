/-
  slices.Delete and slices.DeleteFunc of a node's entries.
  slices.DeleteFunc of pairs by the closure of join.Self: the rising pairs stay.
  join: Self: all that touches, within a tree.
-/
import Derived.Test.YtcbjmcnebmhgpaaGreatKGisI
import Derived.Deep.RegionLaw
import Derived.Test.YtcbjmcnebmhgpaaGreatKJoiA
set_option linter.unusedVariables false
set_option linter.unusedSimpArgs false
set_option maxHeartbeats 2000000
set_option maxRecDepth 20000
namespace Pg
open Go Go.RowKit
section
variable {w : World} {base g n cap s : Nat} {t : TypeId} {xs : List Value}
theorem own_formD (h : w.ownsRow base t s (.slice (some ⟨g,0,none⟩) n cap) n xs) : ∃ cur,Blk w g t cur ∧ n ≤ cap ∧ base ≤ g ∧ cur.toList.take (n * s) = xs := by
 obtain ⟨h1,⟨h2,_⟩ | ⟨g',cap',cur,hv,hg,hh,hnc,hcm,hcs,ht⟩⟩ := h
 · cases h2
 · injection hv with e1 e2 e3
   injection e1 with e1
   injection e1 with e1
   subst e1 e3;exact ⟨cur,hh,hnc,hg,ht⟩
theorem own_frozenD (h : w.ownsRow base t s (.slice (some ⟨g,0,none⟩) n cap) n xs) (i : Nat) : w.frozen? ⟨g,i,none⟩ = false := by
 obtain ⟨cur,hb,_⟩ := own_formD h;exact hb.frozen _
theorem own_setD (h : w.ownsRow base t s (.slice (some ⟨g,0,none⟩) n cap) n xs) (i : Nat) (u : Value) : (w.setCell ⟨g,i,none⟩ u).ownsRow base t s (.slice (some ⟨g,0,none⟩) n cap) n (xs.set i u) := by
 obtain ⟨h1,⟨h2,_⟩ | ⟨g',cap',cur,hv,hg,hh,hnc,hcm,hcs,ht⟩⟩ := h
 · cases h2
 · injection hv with e1 e2 e3
   injection e1 with e1
   injection e1 with e1
   subst e1 e3;refine ⟨by simpa using h1,.inr ⟨g,cap,cur.setIfInBounds i u,rfl,hg,(Blk.set_ (show Blk w g t cur from hh) i u),hnc,hcm,by simpa using hcs,?_⟩⟩
   rw [← ht, Array.toList_setIfInBounds, List.take_set]
theorem own_cutD {k : Nat} (h : w.ownsRow base t s (.slice (some ⟨g,0,none⟩) n cap) n xs) (hk : k ≤ n) : w.ownsRow base t s (.slice (some ⟨g,0,none⟩) k cap) k (xs.take (k * s)) := by
 obtain ⟨h1,⟨h2,_⟩ | ⟨g',cap',cur,hv,hg,hh,hnc,hcm,hcs,ht⟩⟩ := h
 · cases h2
 · injection hv with e1 e2 e3
   injection e1 with e1
   injection e1 with e1
   subst e1 e3;have hks : k * s ≤ n * s := Nat.mul_le_mul_right _ hk;refine ⟨by rw [List.length_take,h1];omega,.inr ⟨g,cap,cur,rfl,hg,hh,by omega,hcm,hcs,?_⟩⟩
   rw [← ht, List.take_take, Nat.min_eq_left hks]
theorem own_setCellsD : ∀ (vs : List Value) {w : World} {xs : List Value} (i : Nat),w.ownsRow base t s (.slice (some ⟨g,0,none⟩) n cap) n xs → (w.setCells g i vs).ownsRow base t s (.slice (some ⟨g,0,none⟩) n cap) n (setN xs i vs)
 | [],_,_,_,h => h
 | v :: r,_,_,i,h => own_setCellsD r (i + 1) (own_setD h i v)
theorem setN_high : ∀ (vs xs : List Value) (i : Nat),xs.length ≤ i → setN xs i vs = xs
 | [],_,_,_ => rfl
 | v :: r,xs,i,h => by rw [setN,List.set_eq_of_length_le h];exact setN_high r xs (i + 1) (by omega)
theorem own_highD (h : w.ownsRow base t s (.slice (some ⟨g,0,none⟩) n cap) n xs) (vs : List Value) (i : Nat) (hi : n * s ≤ i) : (w.setCells g i vs).ownsRow base t s (.slice (some ⟨g,0,none⟩) n cap) n xs := by
 have := own_setCellsD vs i h
 rwa [setN_high vs xs i (by rw [h.1];exact hi)] at this
theorem grown_setCellsD {a : World} : ∀ (vs : List Value) {w : World} (i : Nat),a.grownBy w (some g) → a.grownBy (w.setCells g i vs) (some g)
 | [],_,_,h => h
 | v :: r,_,i,h => grown_setCellsD r (i + 1) (h.trans (grown_set _ ⟨g,i,none⟩ v))
end
theorem wp_append_roomD {P : Program} {o : Oper} {a : Act} {w : World} {K : Act → World → Prop} {Q : Exit → Act → World → Prop} (s x : Operand) (t : TypeId) (hop : o.op = Op.call { callee := Callee.builtin Builtin.append,args := #[s,x],argTypes := #[t,t] })
 (e : TypeId) (i : TypeInfo) (size : Nat) (h1 : P.underlying t = some (.slice e)) (h2 : P.info? e = some i) (h4 : i.size = size)
 (b off n cap : Nat) (hs : a.eval s = .slice (some ⟨b,off,none⟩) n cap)
 (ad : Addr) (m c : Nat) (news : List Value) (hx : a.eval x = .slice (some ad) m c) (hn : news.length = m * size) (hc : ∀ j u,news[j]? = some u → w.cell? (ad.add j) = some u) (h1c : ∀ u ∈ news,u.oneCell' = true)
 (hroom : n + m ≤ cap) (hspare : ∀ j,j < news.length → (w.cell? ⟨b,off + n * size + j,none⟩).isSome = true ∧ w.frozen? ⟨b,off + n * size + j,none⟩ = false)
 (hK : K (a.put o.dst (.slice (some ⟨b,off,none⟩) (n + m) cap)) (w.setCells b (off + n * size) news)) : o.wp P a w K Q := by
 subst h4;have hrun := run_append_room_cells (P := P) w t o.type e i h1 h2 b off n cap ad m c news hn hc h1c hroom (fun j hj => (hspare j hj).1) (fun j hj => (hspare j hj).2)
 unfold Oper.wp
 simp [execOp,hop,resolve,invoke,builtin,hs,hx,hrun,Result.andThen]
 exact hK
end Pg
namespace Go.Proofs.YtcbjmcnebmhgpaaGreat
open Go Go.RowKit Pg
theorem run_clear_en (w : World) (b o n c : Nat) (hn : 0 < n) (hc : ∀ j,j < n * 3 → (w.cell? ⟨b,o + j,none⟩).isSome = true) (hf : ∀ j,j < n * 3 → w.frozen? ⟨b,o + j,none⟩ = false) :
 ∃ zs : List Value,∀ ty,(Builtin.clear_ #[96] ty #[.slice (some ⟨b,o,none⟩) n c]).run Tryz.prog w = .ok (.tuple #[]) (w.setCells b o zs) := by
 have hv : ∀ w,(zeroValue 99).run Tryz.prog w = .ok (.agg #[.slice none 0 0,.int .i64 0,.pointer none]) w := fun w => by kernel_rfl
 have hlen : (Builtin.zeroCells (Value.agg #[.slice none 0 0,.int .i64 0,.pointer none]).cells n).toList.length = n * 3 := by simp [Builtin.zeroCells,Value.cells]
 have hone : ∀ v ∈ (Builtin.zeroCells (Value.agg #[.slice none 0 0,.int .i64 0,.pointer none]).cells n).toList,v.oneCell' = true := by
  intro v hv';obtain ⟨i,hi,rfl⟩ := List.getElem_of_mem hv';have hm : i % 3 = 0 ∨ i % 3 = 1 ∨ i % 3 = 2 := by omega
  rcases hm with h | h | h <;> simp [Builtin.zeroCells,Value.cells,h,Value.oneCell']
 have hst := run_storeCells_cells (P := Tryz.prog) b o (Builtin.zeroCells (Value.agg #[.slice none 0 0,.int .i64 0,.pointer none]).cells n).toList 0 w (by rw [hlen];simpa using hc) (by rw [hlen];simpa using hf) hone
 simp only [Nat.add_zero] at hst;obtain ⟨m,rfl⟩ : ∃ m,n = m + 1 := ⟨n - 1,by omega⟩
 exact ⟨(Builtin.zeroCells (Value.agg #[.slice none 0 0,.int .i64 0,.pointer none]).cells (m + 1)).toList,fun ty => by simp [Builtin.clear_,run_underlying Tryz.underlying96,hv,hst]⟩
theorem ecell_lenD (lf : Bool) (e : En) : (ecell lf e).length = 3 := rfl
theorem ecells_setN {lf : Bool} {l : List En} {k : Nat} (hk : k < l.length) (e : En) : setN (ecells lf l) (k * 3) (ecell lf e) = ecells lf (l.set k e) := flat_setN (ecell_lenD lf) hk e
theorem ecells_oneD (lf : Bool) (l : List En) (h : ∀ e ∈ l,e.kv.oneCell' = true) : ∀ u ∈ ecells lf l,u.oneCell' = true := by
 intro u hu;obtain ⟨e,he,hu⟩ := List.mem_flatMap.1 hu;simp only [ecell,List.mem_cons,List.not_mem_nil,or_false] at hu
 rcases hu with rfl | rfl | rfl
 · exact h e he
 · rfl
 · cases lf <;> rfl
theorem sdel_src {w : World} {g i1 c q : Nat} {news : List Value} (hs : ∀ j u,news[j]? = some u → w.cell? ⟨g,i1 * 3 + j,none⟩ = some u) (hl : news.length = q * 3) (hq : c = i1 → q = 0) : ∀ j u,news[j]? = some u → w.cell? (Addr.add (if c = i1 then ⟨g,0,none⟩ else ⟨g,i1 * 3,none⟩) j) = some u := by
 intro j u hu
 by_cases h : c = i1
 · rw [hq h] at hl
   have := (List.getElem?_eq_some_iff.1 hu).1
   omega
 · rw [if_neg h]
   have e : (⟨g,i1 * 3,none⟩ : Addr).add j = ⟨g,i1 * 3 + j,none⟩ := by
    unfold Addr.add
    by_cases hz : j = 0
    · simp [hz]
    · simp [hz]
   rw [e]
   exact hs j u hu
theorem sdel_any (lf : Bool) (l : List En) (g n c i : Nat) (w : World) (h : w.ownsRow 0 99 3 (.slice (some ⟨g,0,none⟩) n c) n (ecells lf l)) (hone : ∀ e ∈ l,e.kv.oneCell' = true) (hi : i < n) (hn : n ≤ 1000000) :
 Calls Tryz.prog 38 #[.slice (some ⟨g,0,none⟩) n c,.int .i64 (i : Int),.int .i64 ((i + 1 : Nat) : Int)] w fun e w' => e = .returned (.slice (some ⟨g,0,none⟩) (n - 1) c) ∧ w'.ownsRow 0 99 3 (.slice (some ⟨g,0,none⟩) (n - 1) c) (n - 1) (ecells lf (l.eraseIdx i)) ∧ w.grownBy w' (some g) := by
 obtain ⟨i0,hii,iz0,iz1,iz2⟩ := info_parts Tryz.infoEnG;obtain ⟨w0,hw0⟩ : ∃ x,w.drew = x := ⟨_,rfl⟩;have h0 : w0.ownsRow 0 99 3 (.slice (some ⟨g,0,none⟩) n c) n (ecells lf l) := by rw [← hw0];exact owns_drew h
 have hgw : ∀ x : World,w0.grownBy x (some g) → w.grownBy x (some g) := by rw [← hw0];intro x hx;obtain ⟨a,b,c,d,e⟩ := hx;exact ⟨a,b,c,d,e⟩
 obtain ⟨cur,hB,hnc,_,hcur⟩ := own_formD h0;have hll : l.length = n := by have := h0.1;rw [ecells_len] at this;omega
 obtain ⟨news,hnews⟩ : ∃ x,ecells lf (l.drop (i + 1)) = x := ⟨_,rfl⟩;have hnl : news.length = (n - (i + 1)) * 3 := by rw [← hnews,ecells_len,List.length_drop,hll]
 have hxs : ecells lf l = ecells lf (l.take i) ++ ecells lf [l[i]'(by omega)] ++ news := by
  rw [← hnews, ← ecells_append, ← ecells_append, List.append_assoc, List.singleton_append, ← List.drop_eq_getElem_cons, List.take_append_drop]
 have hcell : ∀ j,j < n * 3 → (w0.cell? ⟨g,j,none⟩).isSome = true := fun j hj => by
  rw [h0.cellAt j (by omega),List.getElem?_eq_getElem (by rw [h.1];omega)];rfl
 have hsrc : ∀ j u,news[j]? = some u → w0.cell? ⟨g,(i + 1) * 3 + j,none⟩ = some u := fun j u hu => by
  have hj := (List.getElem?_eq_some_iff.1 hu).1
  rw [h0.cellAt _ (by omega), ← hu, ← hnews, ← ecells_drop, List.getElem?_drop]
 have hW1 := own_cutD (k := n - 1) (own_setCellsD news (i * 3) h0) (by omega)
 have hset : (setN (ecells lf l) (i * 3) news).take ((n - 1) * 3) = ecells lf (l.eraseIdx i) := by
  have hle : (ecells lf (l.take i)).length = i * 3 := by rw [ecells_len,List.length_take];congr 1;omega
  rw [setN_eq _ _ _ (by rw [ecells_len,hnl,hll];omega),List.eraseIdx_eq_take_drop_succ,ecells_append,hnews,ecells_take,List.append_assoc,List.take_append,hle,List.take_of_length_le (by rw [hle];omega)]
  congr 1
  rw [List.take_append_of_le_length (by rw [hnl];omega),List.take_of_length_le (by rw [hnl];omega)]
 rw [hset] at hW1;have hT1 : w0.grownBy (w0.setCells g (i * 3) news) (some g) := grown_setCellsD news (i * 3) ⟨rfl,rfl,rfl,Nat.le_refl _,fun _ _ _ => rfl⟩
 obtain ⟨W1,hw1⟩ : ∃ x,w0.setCells g (i * 3) news = x := ⟨_,rfl⟩;rw [hw1] at hW1 hT1;obtain ⟨m,hm⟩ : ∃ m,n - 1 = m := ⟨_,rfl⟩;have hm1 : i + (n - (i + 1)) = m := by omega
 have hcell1 : ∀ j,j < n * 3 → (W1.cell? ⟨g,j,none⟩).isSome = true := fun j hj => by
  have h2 := own_setCellsD news (i * 3) h0;rw [hw1] at h2
  rw [h2.cellAt j (by omega),List.getElem?_eq_getElem (by rw [h2.1];omega)];rfl
 obtain ⟨zs,hcl⟩ := run_clear_en W1 g (m * 3) 1 (c - m) (by decide) (fun j hj => hcell1 _ (by omega)) (fun j _ => own_frozenD hW1 _)
 have hfin : (W1.setCells g (m * 3) zs).ownsRow 0 99 3 (.slice (some ⟨g,0,none⟩) (n - 1) c) (n - 1) (ecells lf (l.eraseIdx i)) := own_highD hW1 zs (m * 3) (by omega)
 have hTf : w.grownBy (W1.setCells g (m * 3) zs) (some g) := hgw _ (grown_setCellsD zs (m * 3) hT1)
 rw [hm] at hfin ⊢
 have HF := Lib.hid (And.intro hfin hTf);have HApp : Hid ((∀ u ∈ news,u.oneCell' = true) ∧ (∀ j,j < news.length → (w0.cell? ⟨g,0 + i * 3 + j,none⟩).isSome = true ∧ w0.frozen? ⟨g,0 + i * 3 + j,none⟩ = false)) := ⟨by rw [← hnews];exact ecells_oneD lf _ fun e he => hone e (List.mem_of_mem_drop he),fun j hj => ⟨by rw [Nat.zero_add];exact hcell _ (by omega),own_frozenD h0 _⟩⟩
 have HW1 := Lib.hid hw1;obtain ⟨i1,hi1⟩ : ∃ x,i + 1 = x := ⟨_,rfl⟩;have HI1 := Lib.hid hi1;obtain ⟨q,hq⟩ : ∃ x,n - i1 = x := ⟨_,rfl⟩;have HQ := Lib.hid hq;have hne : ((i : Int) == (i1 : Int)) = false := by rw [beq_eq_false_iff_ne];omega
 have hic : (i : Int) ≤ (c : Int) := by omega
 have hi1c : (i1 : Int) ≤ (c : Int) := by omega
 have hi1n : (i1 : Int) ≤ (n : Int) := by omega
 have hii1 : (i : Int) ≤ (i1 : Int) := by omega
 have hncI : (n : Int) ≤ (c : Int) := by omega
 have hmn : (m : Int) ≤ (n : Int) := by omega
 have hmc : ¬ c = m := by omega
 have hnm : n - m = 1 := by omega
 have hicn : ¬ c = i := by omega
 have hqm : i + q = m := by omega
 have HE : Hid (i + q = m ∧ i + q ≤ c) := ⟨hqm,by omega⟩
 rw [hi1] at hsrc hnl ⊢
 rw [hq] at hnl;have HS := Lib.hid hsrc;have HNL := Lib.hid hnl;have HW0 := Lib.hid hw0;clear h h0 hgw hw0 hB hcur hll hnews hxs hcell hsrc hW1 hset hT1 hw1 hcell1 hfin hTf hnl hone hm1 hi1 hq hm
 go_enter Tryz.func38,Tryz.ntmps38
 go_wp2_with fail;refine wp_region_seq [0,1,2,3,4,5] [6,7] (by kernel_rfl) (by kernel_rfl) (fun _ _ d _ _ h => by cases d <;> exact h) ?_
 simp only [List.map_cons,List.map_nil,ldz,lds,bare,gslot,lcz,lcs,Option.bind_some,pureK,Option.isNone_none,Bool.and_true,Bool.true_and,Bool.false_and,Bool.and_self]
 repeat ((try simp only [Act.put,lsi,lsz,lss]);first | (refine lexM_pure (v := ?_) wantB_none rfl ?_ ?_;rotate_left;focus (intro wq;go_simp;try with_reducible rfl)) | (refine lexM_quiet (v := ?_) wantB_none rfl ?_ ?_;rotate_left;focus (intro wq hq;obtain ⟨hcq,hfq⟩ := bcell hq;go_simp;try with_reducible rfl)) | (refine lexM_loud wantB_none rfl (fun K hK => ?_);go_simp;((first | fail | skip) <;> (refine hK.out _ _ bel ?_;clear hK K))))
 (all_goals try simp only [Act.put,lsi,lsz,lss])
 refine lexM_seq ?_;refine seqL_step (fun K hK => ?_)
 (rw [HW0.out]);(refine wp_append_roomD _ _ 96 rfl 99 i0 3 Tryz.underlying96 hii iz1 g 0 i c rfl (if c = i1 then ⟨g,0,none⟩ else ⟨g,i1 * 3,none⟩) (n - i1) (c - i1) news ?_ ?_ ?_ HApp.out.1 ?_ HApp.out.2 ?_);(focus (show Value.slice (if c = i1 then _ else _) _ _ = _;split <;> rfl));(focus (rw [HQ.out];exact HNL.out));(focus (exact sdel_src HS.out HNL.out (by rw [← HQ.out];omega)));(focus (rw [HQ.out];exact HE.out.2));(rw [Nat.zero_add,HW1.out,HQ.out,HE.out.1])
 refine hK.out _ _ ?_;clear hK K
 (try simp only [Act.put,lsi,lsz,lss])
 refine seqL_step (fun K hK => ?_)
 go_simp
 refine hK.out _ _ ?_;clear hK K
 (try simp only [Act.put,lsi,lsz,lss])
 refine seqL_nil ?_;go_wp2_with fail
 all_goals
  go_ret
  first
   | exact ⟨rfl, HF.out.1, HF.out.2⟩
   | (have hF := HF.out;have e : c = i1 := (by assumption);rw [e] at hF;exact ⟨rfl,hF.1,hF.2⟩)
end Go.Proofs.YtcbjmcnebmhgpaaGreat
namespace Pg
def idxP : List (Int × Int) → Nat → Int
 | [],_ => -1
 | e :: r,i => if e.2 ≤ e.1 then (i : Int) else idxP r (i + 1)
def upJ (l : List (Int × Int)) : List (Int × Int) := l.filter fun e => decide (e.1 < e.2)
theorem idxP_drop {l : List (Int × Int)} {i : Nat} {e : Int × Int} (h : l[i]? = some e) : idxP (l.drop i) i = if e.2 ≤ e.1 then (i : Int) else idxP (l.drop (i + 1)) (i + 1) := by
 have hi : i < l.length := (List.getElem?_eq_some_iff.1 h).1
 rw [List.drop_eq_getElem_cons hi]
 rw [List.getElem?_eq_getElem hi] at h;injection h with h
 subst h
 rfl
theorem upP_take {l : List (Int × Int)} {j : Nat} {x : Int × Int} (h : l[j]? = some x) : upJ (l.take (j + 1)) = upJ (l.take j) ++ if x.1 < x.2 then [x] else [] := by
 unfold upJ
 rw [List.take_add_one,h,List.filter_append]
 congr 1
 by_cases q : x.1 < x.2 <;> simp [q]
theorem idxP_none : ∀ {l : List (Int × Int)} {i : Nat},idxP l i = -1 → upJ l = l
 | [],_,_ => rfl
 | e :: r,i,h => by
   unfold idxP at h
   by_cases q : e.2 ≤ e.1
   · rw [if_pos q] at h;omega
   · rw [if_neg q] at h
     unfold upJ
     rw [List.filter_cons_of_pos (by simpa using Int.not_le.1 q)]
     exact congrArg (e :: ·) (idxP_none h)
theorem idxP_some : ∀ {l : List (Int × Int)} {i : Nat},idxP l i ≠ -1 → ∃ j x,idxP l i = ((i + j : Nat) : Int) ∧ l[j]? = some x ∧ x.2 ≤ x.1 ∧ upJ (l.take j) = l.take j
 | [],_,h => absurd rfl h
 | e :: r,i,h => by
   unfold idxP at h ⊢
   by_cases q : e.2 ≤ e.1
   · exact ⟨0,e,by rw [if_pos q];rfl,rfl,q,rfl⟩
   · rw [if_neg q] at h ⊢
     obtain ⟨j,x,h1,h2,h3,h4⟩ := idxP_some h;refine ⟨j + 1,x,by rw [h1];congr 1;omega,by simpa using h2,h3,?_⟩
     rw [List.take_succ_cons]
     unfold upJ
     rw [List.filter_cons_of_pos (by simpa using Int.not_le.1 q)]
     exact congrArg (e :: ·) h4
end Pg
namespace Go.Proofs.YtcbjmcnebmhgpaaGreat
open Go Go.RowKit Pg
theorem prow_at {w : World} {base : Nat} {v : Value} {l : List (Int × Int)} (h : w.ownsRow base 38 2 v l.length (prcells l)) {k : Nat} {p : Int × Int} (hk : l[k]? = some p) :
 ∃ g c,v = .slice (some ⟨g,0,none⟩) l.length c ∧ g < w.heap.size ∧ w.cell? ⟨g,k * 2,none⟩ = some (.int .i64 p.1) ∧ w.cell? ⟨g,k * 2 + 1,none⟩ = some (.int .i64 p.2) := by
 have hkl : k < l.length := (List.getElem?_eq_some_iff.1 hk).1
 have e : ∀ (l : List (Int × Int)) (k : Nat) (p : Int × Int),l[k]? = some p → (prcells l)[k * 2]? = some (.int .i64 p.1) ∧ (prcells l)[k * 2 + 1]? = some (.int .i64 p.2) := fun l => by
  induction l with
  | nil => intro k p h;simp at h
  | cons a r ih =>
    intro k p h;have e0 : prcells (a :: r) = [.int .i64 a.1,.int .i64 a.2] ++ prcells r := rfl
    rw [e0]
    cases k with
    | zero => simp at h;subst h;exact ⟨rfl,rfl⟩
    | succ k =>
      have := ih k p (by simpa using h)
      rw [show (k + 1) * 2 = k * 2 + 2 by omega]
      exact this
 rcases h.2 with ⟨_,h0⟩ | ⟨g,cap,cur,rfl,hb,hg,r⟩
 · omega
 · refine ⟨g,cap,rfl,(Array.getElem?_eq_some_iff.1 hg).1,?_,?_⟩
   · rw [h.cellAt _ (by omega), (e l k p hk).1]
   · rw [h.cellAt _ (by omega), (e l k p hk).2]
theorem clo_any (a b : Int) (w : World) : Calls Tryz.prog 30 #[.agg #[.int .i64 a,.int .i64 b]] w (Ret w (.bool (decide (b ≤ a)))) := by
 go_enter Tryz.func30,Tryz.ntmps30
 go_wp2;go_ret;exact ⟨rfl,bel⟩
theorem run_clear_pr (w : World) (b o n c : Nat) (hn : 0 < n) (hc : ∀ j,j < n * 2 → (w.cell? ⟨b,o + j,none⟩).isSome = true) (hf : ∀ j,j < n * 2 → w.frozen? ⟨b,o + j,none⟩ = false) :
 ∃ zs : List Value,∀ ty,(Builtin.clear_ #[29] ty #[.slice (some ⟨b,o,none⟩) n c]).run Tryz.prog w = .ok (.tuple #[]) (w.setCells b o zs) := by
 have hv : ∀ w,(zeroValue 38).run Tryz.prog w = .ok (.agg #[.int .i64 0,.int .i64 0]) w := fun w => by kernel_rfl
 have hlen : (Builtin.zeroCells (Value.agg #[.int .i64 0,.int .i64 0]).cells n).toList.length = n * 2 := by simp [Builtin.zeroCells,Value.cells]
 have hone : ∀ v ∈ (Builtin.zeroCells (Value.agg #[.int .i64 0,.int .i64 0]).cells n).toList,v.oneCell' = true := by
  intro v hv';obtain ⟨i,hi,rfl⟩ := List.getElem_of_mem hv';have hm : i % 2 = 0 ∨ i % 2 = 1 := by omega
  rcases hm with h | h <;> simp [Builtin.zeroCells,Value.cells,h,Value.oneCell']
 have hst := run_storeCells_cells (P := Tryz.prog) b o (Builtin.zeroCells (Value.agg #[.int .i64 0,.int .i64 0]).cells n).toList 0 w (by rw [hlen];simpa using hc) (by rw [hlen];simpa using hf) hone
 simp only [Nat.add_zero] at hst;obtain ⟨m,rfl⟩ : ∃ m,n = m + 1 := ⟨n - 1,by omega⟩
 exact ⟨(Builtin.zeroCells (Value.agg #[.int .i64 0,.int .i64 0]).cells (m + 1)).toList,fun ty => by simp [Builtin.clear_,run_underlying Tryz.underlying29,hv,hst]⟩
def prcell (p : Int × Int) : List Value := [.int .i64 p.1,.int .i64 p.2]
theorem prcells_setN {l : List (Int × Int)} {k : Nat} (hk : k < l.length) (e : Int × Int) : setN (prcells l) (k * 2) (prcell e) = prcells (l.set k e) := flat_setN (f := prcell) (fun _ => rfl) hk e
theorem prcells_take (l : List (Int × Int)) (k : Nat) : (prcells l).take (k * 2) = prcells (l.take k) := by
 induction l generalizing k with
 | nil => simp [prcells]
 | cons a r ih =>
   cases k with
   | zero => simp [prcells]
   | succ k =>
     have e0 : ∀ x : List (Int × Int),prcells (a :: x) = .int .i64 a.1 :: .int .i64 a.2 :: prcells x := fun _ => rfl
     rw [e0, List.take_succ_cons, e0, show (k + 1) * 2 = k * 2 + 2 by omega, List.take_succ_cons, List.take_succ_cons, ih]
theorem idxP_any (base : Nat) (l : List (Int × Int)) (n : Nat) (v : Value) (w : World) (h : w.ownsRow base 38 2 v n (prcells l)) (hn : n ≤ 1000000) :
 Calls Tryz.prog 58 #[v,.func (.func 30) #[] #[]] w (Ret w (.int .i64 (idxP l 0))) := by
 obtain ⟨A,c,rfl,hnc,hAn,hAb⟩ := row_form h;have hl : l.length = n := by have := h.1;rw [prcells_len] at this;omega
 have HR := Lib.hid h;have HP := Lib.hid clo_any;clear h hnc hAn hAb
 go_enter Tryz.func58,Tryz.ntmps58
 go_wp2_with fail
 go_loopw [8] (fun vi wr => ∃ i : Nat,i ≤ n ∧ vi = .int .i64 i ∧ idxP (l.drop i) i = idxP l 0 ∧ Below w.heap.size w wr) (fun vi _ => n - (Go.RowKit.intOf vi).toNat)
 case atStart => exact ⟨0,by omega,rfl,rfl,bel⟩
 case round =>
  obtain ⟨i,hi,rfl,he,hb⟩ := hrel
  by_cases hlt' : i < n
  case neg =>
   obtain rfl : n = i := by omega
   have HE : Hid (idxP l 0 = -1) := by
    unfold Hid
    rw [← he, List.drop_of_length_le (by omega)]
    rfl
   clear he;go_wp2_with fail;go_ret;exact ⟨by rw [HE.out];rfl,bel⟩
  have hi1 : (i : Int) < (n : Int) := by omega
  obtain ⟨x,hx⟩ : ∃ x,l[i]? = some x := ⟨l[i]'(by omega),List.getElem?_eq_getElem _⟩
  have hr := HR.out;rw [← hl] at hr;obtain ⟨g',c',hv,hgl,r0,r1⟩ := prow_at hr hx;injection hv with hv1 hv2 hv3
  subst hv1 hv3;obtain ⟨hc,hf⟩ := bcell hb;have hz := hb.size;rw [← hc g' _ hgl] at r0 r1;have hgw : g' < wr.heap.size := by omega
  rw [idxP_drop hx] at he;clear hr hv2 hc hf;obtain ⟨xa,xb⟩ := x
  simp only at r0 r1 he
  by_cases hk : xb ≤ xa
  · rw [if_pos hk] at he
    have HE := Lib.hid he;have hd : decide (xb ≤ xa) = true := decide_eq_true hk;clear he hk
    go_wp2_with (go_at_call 30;(with_reducible refine (HP.out _ _ _).mono ?_);rintro e w1 ⟨rfl,hb1⟩;obtain ⟨hc1,hf1⟩ := bcell hb1;rw [hd])
    go_ret;exact ⟨by rw [HE.out];rfl,bel⟩
  · rw [if_neg hk] at he
    have HE := Lib.hid he;have hd : decide (xb ≤ xa) = false := decide_eq_false hk;clear he hk
    go_wp2_with (go_at_call 30;(with_reducible refine (HP.out _ _ _).mono ?_);rintro e w1 ⟨rfl,hb1⟩;obtain ⟨hc1,hf1⟩ := bcell hb1;rw [hd])
    go_roundw
    case rel => exact ⟨i + 1, by omega, by go_num, HE.out, bel⟩
    case measure => simp [Go.RowKit.intOf];omega
theorem grown_someP {w w' : World} {row : Option Nat} (h : w.grownBy w' none) : w.grownBy w' row := by
 obtain ⟨a,b,c,d,e⟩ := h;exact ⟨a,b,c,d,fun k hk q => e k hk (by simp)⟩
theorem drop_stepP {L l : List (Int × Int)} {j : Nat} (h : L.drop j = l.drop j) : L.drop (j + 1) = l.drop (j + 1) := by
 rw [← List.drop_drop,← List.drop_drop,h]
structure DelP (w0 w : World) (base : Nat) (l : List (Int × Int)) (g n c a j : Nat) (L : List (Int × Int)) : Prop where
 row : w.ownsRow base 38 2 (.slice (some ⟨g,0,none⟩) n c) n (prcells L)
 grown : w0.grownBy w (some g)
 len : L.length = n
 lt : a < j
 le : j ≤ n
 num : a = (upJ (l.take j)).length
 kept : L.take a = upJ (l.take j)
 rest : L.drop j = l.drop j
theorem sdelP_any (base : Nat) (l : List (Int × Int)) (v : Value) (n : Nat) (w : World) (h : w.ownsRow base 38 2 v n (prcells l)) (hn : n ≤ 1000000) :
 Calls Tryz.prog 29 #[v,.func (.func 30) #[] #[]] w fun e w' => ∃ v',e = .returned v' ∧ w'.ownsRow base 38 2 v' (upJ l).length (prcells (upJ l)) ∧ w.grownBy w' v.ownBlock := by
 have HIx := Lib.hid (idxP_any base l n v w h hn);have hl : l.length = n := by have := h.1;rw [prcells_len] at this;omega
 have HL := Lib.hid hl;have HR := Lib.hid h
 by_cases hix : idxP l 0 = -1
 · have hF := idxP_none hix
   rw [hix] at HIx;have HF := Lib.hid hF;obtain ⟨A,c,rfl,_,_,_⟩ := row_form h;clear h hF hix
   go_enter Tryz.func29, Tryz.ntmps29
   go_wp2_with (go_at_call 58;(refine HIx.out.mono ?_);rintro e w1 ⟨rfl,hb1⟩;obtain ⟨hc1,hf1⟩ := bcell hb1;have hz1 := hb1.size;(try simp at hz1))
   go_ret;exact ⟨_,rfl,by rw [HF.out,HL.out];exact own_kept HR.out (grown_below hb1) (by simp),grown_someP (grown_below hb1)⟩
 obtain ⟨j0,x0,h1,h2,h3,h4⟩ := idxP_some hix;rw [h1,Nat.zero_add] at HIx;have hj0 : j0 < l.length := (List.getElem?_eq_some_iff.1 h2).1
 rcases h.2 with ⟨_,h0⟩ | ⟨g,c,cur,rfl,_⟩
 · omega
 have HJ := Lib.hid (And.intro hj0 (And.intro h2 (And.intro h3 h4)));have hjn : j0 < n := by rw [← HL.out];exact hj0
 have hm1 : ((j0 : Int) == -1) = false := by rw [beq_eq_false_iff_ne];omega
 have HN0 : Hid (upJ (l.take (j0 + 1)) = l.take j0) := by
  unfold Hid
  rw [upP_take h2, if_neg (by omega), List.append_nil, h4]
 clear hix h1 h2 h3 h4 hj0 h hl
 go_enter Tryz.func29,Tryz.ntmps29
 go_wp2_with (go_at_call 58;(refine HIx.out.mono ?_);rintro e w1 ⟨rfl,hb1⟩;obtain ⟨hc1,hf1⟩ := bcell hb1;have hz1 := hb1.size;(try simp at hz1))
 have HB1 := Lib.hid hb1;clear hb1 hc1 hf1 hz1 hm1 HIx;have HP := Lib.hid clo_any
 go_loopw [5,6] (fun va vj wr => ∃ (a j : Nat) (L : List (Int × Int)),va = .int .i64 a ∧ vj = .int .i64 j ∧ DelP w wr base l g n c a j L) (fun _ vj _ => n - (Go.RowKit.intOf vj).toNat)
 case atStart =>
  have hz := HJ.out.1;exact ⟨j0,j0 + 1,l,rfl,by first | go_num | (rw [IntWalk.wrap64_in _ (by omega)];go_num),⟨own_kept HR.out (grown_below HB1.out) (by simp),grown_someP (grown_below HB1.out),HL.out,by omega,by omega,by rw [HN0.out,List.length_take];omega,HN0.out.symm,rfl⟩⟩
 case round =>
  obtain ⟨a,j,L,rfl,rfl,D⟩ := hrel;have hcn : n ≤ c := by obtain ⟨_,_,h,_⟩ := own_formD D.row;exact h
  have haj := D.lt;have hjn' := D.le;have HD := Lib.hid D
  by_cases hlt : j < n
  case neg =>
   obtain rfl : n = j := by omega
   have hac : ¬ c = a := by omega
   have hacI : (a : Int) ≤ (c : Int) := by omega
   have hanI : (a : Int) ≤ (n : Int) := by omega
   have hncI : (n : Int) ≤ (c : Int) := by omega
   obtain ⟨zs,hcl⟩ := run_clear_pr wr g (a * 2) (n - a) (c - a) (by omega) (fun z hz => by rw [D.row.cellAt _ (by omega),List.getElem?_eq_getElem (by rw [D.row.1];omega)];rfl) (fun z _ => own_frozenD D.row _)
   clear D;go_wp2_with fail;go_ret;have e : l.take n = l := List.take_of_length_le (by rw [HL.out];exact Nat.le_refl _)
   have hk := HD.out.kept;have hnum := HD.out.num;rw [e] at hk hnum;have hro := own_highD (own_cutD (k := a) HD.out.row (by omega)) zs (a * 2) (Nat.le_refl _)
   rw [prcells_take,hk] at hro;exact ⟨_,rfl,by rw [← hnum];exact hro,grown_setCellsD zs (a * 2) HD.out.grown⟩
  have hltI : (j : Int) < (n : Int) := by omega
  have hjl : j < l.length := by rw [HL.out];exact hlt
  obtain ⟨x,hx⟩ : ∃ x,l[j]? = some x := ⟨l[j],List.getElem?_eq_getElem hjl⟩
  have hLx : L[j]? = some x := by
   have := congrArg (·[0]?) D.rest
   simp only [List.getElem?_drop,Nat.add_zero] at this
   rw [this, hx]
  have hal : a < L.length := by rw [D.len];omega
  obtain ⟨y,hy⟩ : ∃ y,L[a]? = some y := ⟨L[a],List.getElem?_eq_getElem hal⟩;have hr := D.row;rw [← D.len] at hr;obtain ⟨g',c',hv,hgl,r0,r1⟩ := prow_at hr hLx;injection hv with hv1 hv2 hv3
  injection hv1 with hv1
  injection hv1 with hv1
  subst hv1 hv3;clear hv2;obtain ⟨g',c',hv,_,s0,s1⟩ := prow_at hr hy;injection hv with hv1 hv2 hv3
  injection hv1 with hv1
  injection hv1 with hv1
  subst hv1 hv3;have f0 := own_frozenD hr (a * 2);have f1 := own_frozenD hr (a * 2 + 1);have HX := Lib.hid hx;have haI : (a : Int) < (n : Int) := by omega
  clear D hr hv2 hx hLx hy hal hjl;obtain ⟨xa,xb⟩ := x
  simp only at r0 r1
  by_cases hk : xb ≤ xa
  · have hd : decide (xb ≤ xa) = true := decide_eq_true hk
    have HK := Lib.hid hk;clear hk
    go_wp2_with (go_at_call 30;(with_reducible refine (HP.out _ _ _).mono ?_);rintro e w1 ⟨rfl,hb1⟩;obtain ⟨hc1,hf1⟩ := bcell hb1;rw [hd])
    have hbw : Below wr.heap.size wr w1 := bel;refine ⟨⟨a,j + 1,L,by go_num,by go_num,?_⟩,by simp [Go.RowKit.intOf];omega⟩
    have hs := upP_take HX.out;rw [if_neg (by have := HK.out;simp only;omega),List.append_nil] at hs
    exact ⟨own_kept HD.out.row (grown_below hbw) (by simp),HD.out.grown.trans (grown_someP (grown_below hbw)),HD.out.len,by omega,by omega,by rw [hs];exact HD.out.num,by rw [hs];exact HD.out.kept,drop_stepP HD.out.rest⟩
  · have hd : decide (xb ≤ xa) = false := decide_eq_false hk
    have HK := Lib.hid hk;clear hk
    go_wp2_with (go_at_call 30;(with_reducible refine (HP.out _ _ _).mono ?_);rintro e w1 ⟨rfl,hb1⟩;obtain ⟨hc1,hf1⟩ := bcell hb1;rw [hd])
    have hbw : Below wr.heap.size wr w1 := bel;refine ⟨⟨a + 1,j + 1,L.set a (xa,xb),by go_num,by go_num,?_⟩,by simp [Go.RowKit.intOf];omega⟩
    have hL := HD.out.len;have hro := own_setCellsD (prcell (xa,xb)) (a * 2) (own_kept HD.out.row (grown_below hbw) (by simp))
    rw [prcells_setN (by omega)] at hro
    have hgr := grown_setCellsD (prcell (xa,xb)) (a * 2) (HD.out.grown.trans (grown_someP (grown_below hbw)));have hs := upP_take HX.out;rw [if_pos (by have := HK.out;simp only;omega)] at hs
    refine ⟨hro,hgr,by rw [List.length_set];exact hL,by omega,by omega,?_,?_,?_⟩
    · rw [hs,List.length_append,← HD.out.num];rfl
    · rw [hs,← HD.out.kept,List.take_add_one,List.getElem?_set_self (by omega),List.take_set,List.set_eq_of_length_le (by rw [List.length_take];omega)];rfl
    · rw [List.drop_set_of_lt (by omega)];exact drop_stepP HD.out.rest
theorem JSelf_any {C : Cl} {ct : TypeId} {cv : Value} {w : World} {own imm : Nat → Prop} {tb mb : Nat} {t : Tr} (h : GAt C (.iface ct cv) w own imm tb mb t) (hn : t.items.length ≤ 100) :
 Calls Tryz.prog 15 #[gP tb] w fun e w' => ∃ v,e = .returned (.tuple #[v,.nilIface]) ∧ w'.ownsRow w.heap.size 38 2 v (upJ (pairsP (obsT t.items) (obsT t.items))).length (prcells (upJ (pairsP (obsT t.items) (obsT t.items)))) ∧ Below w.heap.size w w' := by
 have hlen : (pairsP (obsT t.items) (obsT t.items)).length ≤ 1000000 := by
  have h1 := pairsP_len (obsT t.items) (obsT t.items);have h2 : (obsT t.items).length ≤ 100 := by unfold obsT;rw [List.length_map];exact hn
  have h3 : (obsT t.items).length * (obsT t.items).length ≤ 100 * 100 := Nat.mul_le_mul h2 h2
  omega
 have HPr := Lib.hid (fun W (hW : Below w.heap.size w W) => JPairs_any (h.tr hW) (h.tr hW) hn hn)
 generalize pairsP (obsT t.items) (obsT t.items) = P at *;have HDl := Lib.hid (fun base v W (hr : W.ownsRow base 38 2 v P.length (prcells P)) => sdelP_any base P v P.length W hr hlen)
 clear h hn hlen
 simp only [gP] at *
 go_enter Tryz.func15,Tryz.ntmps15
 go_wp2_with (first
  | (go_at_call 10;(refine (HPr.out _ bel).mono ?_);rintro e w2 ⟨v2,rfl,ho2,hb2⟩;have HO2 := Lib.hid (And.intro ho2 (show Below w.heap.size w w2 from bel));clear ho2 hb2)
  | (go_at_call 29;(refine (HDl.out _ _ _ HO2.out.1).mono ?_);rintro e w3 ⟨v3,rfl,ho3,hg3⟩;have H3 := Lib.hid (And.intro ho3 hg3);clear ho3 hg3))
 go_ret2
 exact ⟨_,rfl,H3.out.1,HO2.out.2.grown H3.out.2 HO2.out.2.size fun k e => (HO2.out.1.lt k e).1⟩
end Go.Proofs.YtcbjmcnebmhgpaaGreat
