/-
  Classes that keep the laws, as a search tree uses them: what a key covers, the union of keys covers too.
  The verifier's classes that break nothing, as a search tree uses them.
-/
import Derived.Test.YtildgbhliaonnaaGreatQLawsC
import Derived.Test.YtildgbhliaonnaaGreatQPlainCov
import Derived.Test.YtildgbhliaonnaaGreatQClsA
set_option linter.unusedVariables false
set_option linter.unusedSimpArgs false
namespace Go.Proofs.YtildgbhliaonnaaGreat
open Go.RowKit Pg
structure Lawful (C : Cl) (cv : List Nat → Ob → Prop) (good : List Nat → Prop) : Prop where
 made : ∀ o,(C.make o).1 = 0 → ckOb o = 0 ∧ good (C.make o).2 ∧ cv (C.make o).2 o
 un : ∀ K,K ≠ [] → (∀ k ∈ K,good k) → good (C.un K) ∧ ∀ k ∈ K,∀ o,cv k o → cv (C.un K) o
 cons : ∀ k o q,cv k o → matchS o q = true → C.cons k q = true
 far : ∀ k o p,cv k o → ckOb o = 0 → okPt p = true → cmpF (C.far k p) (distF o p) ≤ 0
def goodB (k : List Nat) : Prop := ∃ b,k = keyL b ∧ okBx b = true
def cvB (k : List Nat) (o : Ob) : Prop := ∃ b,k = keyL b ∧ okBx b = true ∧ inB b (boundsS o)
theorem goods {K : List (List Nat)} (h : ∀ k ∈ K,goodB k) : ∃ l : List Bx,K = l.map keyL ∧ ∀ b ∈ l,okBx b = true := by
 induction K with
 | nil => exact ⟨[],rfl,by simp⟩
 | cons k r ih =>
   obtain ⟨l,e,hl⟩ := ih fun x hx => h x (by simp [hx])
   obtain ⟨b,hb,ok⟩ := h k (by simp)
   refine ⟨b :: l,by rw [e,hb];rfl,?_⟩
   intro x hx
   rcases List.mem_cons.1 hx with q | q
   · rw [q];exact ok
   · exact hl x q
theorem keyL_inj {a b : Bx} (ha : okBx a = true) (hb : okBx b = true) (h : keyL a = keyL b) : a = b := by
 have h1 := unkey_key (okBx_in ha);have h2 := unkey_key (okBx_in hb);rw [if_pos ha] at h1;rw [if_pos hb,← h,h1] at h2;injection h2
theorem union_cv {K : List (List Nat)} (hK : K ≠ []) (h : ∀ k ∈ K,goodB k) : goodB (unionK K) ∧ ∀ k ∈ K,∀ o,cvB k o → cvB (unionK K) o := by
 obtain ⟨l,rfl,hl⟩ := goods h;have hne : l ≠ [] := by simpa using hK
 have hu := union_all hne hl
 rw [unionK_keys hne hl]
 refine ⟨⟨_,rfl,hu.2.1⟩,?_⟩;rintro k hk o ⟨b,rfl,ok,hin⟩;obtain ⟨b',hb',e⟩ := List.mem_map.1 hk;have := keyL_inj (hl b' hb') ok e;subst this;exact ⟨_,rfl,hu.2.1,inB_trans (hu.2.2 _ hb') hin⟩
theorem cons_cv {k : List Nat} {o : Ob} {q : Qu} (h : cvB k o) (hm : matchS o q = true) : consS k q = true := by
 obtain ⟨b,rfl,ok,hin⟩ := h;have hk : unkeyS (keyL b) = some b := by rw [unkey_key (okBx_in ok),if_pos ok]
 rw [consS_some hk]
 exact consB_mono ok (bounds_okBx (match_ok hm).1) hin (match_cons hm)
theorem far_cv {k : List Nat} {o : Ob} {p : Pt} (h : cvB k o) (ho : ckOb o = 0) (hp : okPt p = true) : cmpF (farS k p) (distF o p) ≤ 0 := by
 obtain ⟨b,rfl,ok,hin⟩ := h;have hk : unkeyS (keyL b) = some b := by rw [unkey_key (okBx_in ok),if_pos ok]
 unfold farS
 rw [hk]
 exact cov_near ho hp ok hin
theorem lawful_cls (kd : Int) (bits : Nat) (one : Bool) : Lawful (clsC kd bits one 0) (fun k o => kd = 0 ∨ cvB k o) fun k => kd = 0 ∨ goodB k := by
 by_cases hk : kd = 0
 · subst hk
   refine ⟨fun o h => ⟨h,.inl rfl,.inl rfl⟩,fun K _ _ => ⟨.inl rfl,fun _ _ _ _ => .inl rfl⟩,fun k o q _ _ => by simp [clsC],fun k o p _ ho hp => ?_⟩
   have : (clsC 0 bits one 0).far k p = ⟨0,1⟩ := by simp [clsC]
   rw [this]
   exact cmpF_zero ho hp
 · have ec : (clsC kd bits one 0).cons = consS := by funext Y x;simp [clsC,hk]
   have ef : (clsC kd bits one 0).far = farS := by funext Y x;simp [clsC,hk]
   have eu : ∀ T : List (List Nat),T ≠ [] → (clsC kd bits one 0).un T = unionK T := fun T h => by simp [clsC,hk,h]
   refine ⟨fun o h => ?_,fun K hK h => ?_,fun k o q h hm => ?_,fun k o p h ho hp => ?_⟩
   · have h0 : ckOb o = 0 := h
     have hb := clsBox_ok (kd := kd) (bits := bits) (bounds_okBx h0);have e : ((clsC kd bits one 0).make o).2 = keyL (clsBox kd bits (boundsS o)) := by simp [clsC,h0,hk]
     rw [e]
     exact ⟨h0,.inr ⟨_,rfl,hb.1⟩,.inr ⟨_,rfl,hb.1,hb.2⟩⟩
   · obtain ⟨h1, h2⟩ := union_cv hK fun k hk' => (h k hk').resolve_left hk
     rw [eu K hK]
     exact ⟨.inr h1,fun k hk' o ho => .inr (h2 k hk' o (ho.resolve_left hk))⟩
   · rw [ec];exact cons_cv (h.resolve_left hk) hm
   · rw [ef];exact far_cv (h.resolve_left hk) ho hp
end Go.Proofs.YtildgbhliaonnaaGreat
