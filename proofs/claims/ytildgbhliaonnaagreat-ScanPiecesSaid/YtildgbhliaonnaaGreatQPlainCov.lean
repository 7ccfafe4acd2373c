/-
  Lists of objects and of queries in memory.
  What a box covers: what an object's box is asked for,and how near it is;the same for any greater box.
  The union of keys: of whatever order,in two parts or in one;it covers what its keys were made of.
-/
import Derived.Test.YtildgbhliaonnaaGreatQRel1
import Derived.Test.YtildgbhliaonnaaGreatQOpcA
import Derived.Test.YtildgbhliaonnaaGreatQPlainSplit
import Derived.Test.YtildgbhliaonnaaGreatQArea
set_option linter.unusedVariables false
set_option linter.unusedSimpArgs false
namespace Go.Proofs.YtildgbhliaonnaaGreat
open Go.RowKit Pg
instance : Inhabited Ob := ⟨⟨0,[]⟩⟩
instance : Inhabited Qu := ⟨⟨0,bzero,[]⟩⟩
theorem bmeets_swap {a b : Bx} (h : bmeets a b = true) : bmeets b a = true := by
 unfold bmeets bmeetsR at *
 simp only [Bool.and_eq_true,decide_eq_true_eq] at *
 exact ⟨⟨h.1.2,h.1.1⟩,⟨⟨by omega,by omega⟩,by omega⟩,by omega⟩
theorem match_ok {o : Ob} {q : Qu} (h : matchS o q = true) : ckOb o = 0 ∧ ckQu q = 0 := by
 unfold matchS at h
 split at h
 · rename_i h1;exact h1
 · cases h
theorem match_cons {o : Ob} {q : Qu} (h : matchS o q = true) : consB (boundsS o) q = true := by
 obtain ⟨ho,hq⟩ := match_ok h;obtain ⟨k,b,r⟩ := q;unfold consB
 rw [if_pos hq]
 simp only
 have hk : k = 1 ∨ k = 2 ∨ k = 3 ∨ k = 4 := by
  unfold ckQu at hq
  simp only at hq
  by_cases h12 : k = 1 ∨ k = 2
  · omega
  · rw [if_neg h12] at hq
    by_cases h3 : k = 3
    · omega
    · rw [if_neg h3] at hq
      by_cases h4 : k = 4
      · omega
      · rw [if_neg h4] at hq;cases hq
 unfold matchS at h;rw [if_pos ⟨ho,hq⟩] at h
 simp only at h
 rcases hk with rfl | rfl | rfl | rfl
 · have hr : ckBox b = 0 := by simpa [ckQu] using hq
   rw [if_neg (by decide), if_neg (by decide)]
   refine meets_bounds ho hr ?_;unfold matchS
   rw [if_pos ⟨ho, by simpa [ckQu] using hr⟩]
   exact h
 · have hr : ckBox b = 0 := by simpa [ckQu] using hq
   rw [if_neg (by decide), if_neg (by decide)]
   refine meets_bounds ho hr (in_meets ho hr ?_);unfold matchS
   rw [if_pos ⟨ho, by simpa [ckQu] using hr⟩]
   exact h
 · have op : okPt b.lo = true := by
    have : (if okPt b.lo = true then 0 else 2) = 0 := by simpa [ckQu] using hq
    split at this
    · assumption
    · cases this
   rw [if_pos rfl]
   have hr : ckBox ⟨b.lo,b.lo⟩ = 0 := okBx_ck.1 (okBx_pp op)
   have h1 := meets_bounds (r := ⟨b.lo,b.lo⟩) ho hr (by
    unfold matchS
    rw [if_pos ⟨ho, by simpa [ckQu] using hr⟩]
    exact h)
   have hbo := bounds_okBx ho;have h2 := (bmeets_pp hbo op).1 h1;unfold bhas bhasR;unfold inR at h2
   rw [hbo, op, decide_eq_true h2.1.1, decide_eq_true h2.1.2, decide_eq_true h2.2.1, decide_eq_true h2.2.2]
   rfl
 · have hr : ckRing r = 0 := by simpa [ckQu] using hq
   rw [if_neg (by decide), if_pos rfl]
   rw [if_neg (by decide),if_neg (by decide),if_neg (by decide)] at h
   unfold meetsO at h;have h4 : isBox ⟨4,r⟩ = false := rfl;rw [h4] at h
   cases hb : isBox o with
   | true =>
     rw [hb] at h;have hbo := bounds_okBx ho
     rw [boundsS_box hb] at hbo ⊢
     have ho4 : ckOb ⟨4,r⟩ = 0 := by simpa [ckOb] using hr
     have h1 := meets_bounds (o := ⟨4,r⟩) (r := obBox o) ho4 (okBx_ck.1 hbo) (by
      unfold matchS
      rw [if_pos ⟨ho4, by simpa [ckQu] using okBx_ck.1 hbo⟩]
      exact h)
     exact bmeets_swap h1
   | false =>
     rw [hb] at h
     rw [boundsS_poly hb]
     have h2 : ringsS o.pts r = true := h;unfold ringsS at h2;rw [Bool.and_eq_true] at h2;exact h2.1
theorem consB_mono {b u : Bx} {q : Qu} (hu : okBx u = true) (hb : okBx b = true) (h : inB u b) (hc : consB b q = true) : consB u q = true := by
 unfold inB at h
 have hm : ∀ x,bmeets b x = true → bmeets u x = true := fun x hx => by
  unfold bmeets bmeetsR at *
  simp only [Bool.and_eq_true, decide_eq_true_eq] at *
  exact ⟨⟨hu,hx.1.2⟩,⟨⟨by omega,by omega⟩,by omega⟩,by omega⟩
 unfold consB at *
 split at hc
 · rename_i h0
   rw [if_pos h0]
   split at hc
   · rename_i h3
     rw [if_pos h3]
     unfold bhas bhasR at *
     simp only [Bool.and_eq_true, decide_eq_true_eq] at *
     exact ⟨⟨hu,hc.1.2⟩,⟨⟨by omega,by omega⟩,by omega⟩,by omega⟩
   · rename_i h3
     rw [if_neg h3]
     split at hc
     · rename_i h4
       rw [if_pos h4]
       exact hm _ hc
     · rename_i h4
       rw [if_neg h4]
       exact hm _ hc
 · cases hc
theorem boxN_mono {b u : Bx} {p : Pt} (hb : okBx b = true) (h : inB u b) : boxN u p ≤ boxN b p := by
 obtain ⟨_,h1,h2⟩ := (Pg.okBx_iff b).1 hb;unfold inB at h;unfold boxN;exact sqs_mono (by unfold gap;omega) (by unfold gap;omega)
theorem cov_near {o : Ob} {u : Bx} {p : Pt} (ho : ckOb o = 0) (op : okPt p = true) (hu : okBx u = true) (h : inB u (boundsS o)) : cmpF (bxF u p) (distF o p) ≤ 0 := by
 have h1 := box_near ho op;have hd := distF_den ho op;have e : bxF u p = ⟨boxN u p,1⟩ := by unfold bxF;rw [hu,op];rfl
 rw [cmpF_le Nat.one_pos hd] at h1
 rw [e,cmpF_le Nat.one_pos hd]
 refine Nat.le_trans (Nat.mul_le_mul_right _ ?_) h1;exact boxN_mono (bounds_okBx ho) h
theorem inB_trans {a b c : Bx} (h : inB a b) (k : inB b c) : inB a c := by
 unfold inB at *
 omega
theorem boxesK_keys {l : List Bx} (h : ∀ b ∈ l,okBx b = true) : boxesK (l.map keyL) = l := by
 induction l with
 | nil => rfl
 | cons a r ih =>
   have := ih fun b hb => h b (by simp [hb])
   unfold boxesK at this ⊢
   rw [List.map_cons, List.filterMap_cons, unkey_key (okBx_in (h a (by simp))), if_pos (h a (by simp)), this]
theorem unionK_keys {l : List Bx} (hl : l ≠ []) (h : ∀ b ∈ l,okBx b = true) : unionK (l.map keyL) = keyL (union l).1 := by
 unfold unionK
 rw [boxesK_keys h,if_pos (union_all hl h).1]
end Go.Proofs.YtildgbhliaonnaaGreat
