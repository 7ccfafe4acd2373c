/-
  Arguments opened: points,boxes,lists of points,objects,queries;and the last step of a law that answers true and leaves its arguments alone.
-/
import Derived.Test.YtcbjmcnebmhgpaaGreatKWords
import Derived.Test.YtcbjmcnebmhgpaaGreatKPlainSplit
import Derived.Test.YtcbjmcnebmhgpaaGreatRows
import Derived.Deep.Slices
import Derived.ChangeSame
import Derived.OpenShut
import Derived.WideKeyArgs
import Derived.WalkKit
set_option linter.unusedVariables false
set_option linter.unusedSimpArgs false
set_option maxRecDepth 100000
namespace Go.Proofs.YtcbjmcnebmhgpaaGreat
open Go.RowKit Go.ChangeShapes Go.WideShapes Go.Deep Pg
section
variable {H : Type} {enc : TypeId × Value → H} {W : World} {base : Nat} {spare : Nat → Bool} {held : Bool} {fuel : Nat} {cs : List Value} {x : DataW H × List MemPlace}
end
section
variable {H : Type} {enc : TypeId × Value → H} {W : World} {r : Reach} {b0 base : Nat} {spare : Nat → Bool} {held : Bool} {v : Value} {d : DataW H} {p : List MemPlace}
end
theorem trodAll_kept {H : Type} {enc : TypeId × Value → H} {P : Program} (hl : laidOutB P = true) {W W' : World} (hb : Below W.heap.size W W') {sp : Nat → Bool} :
 ∀ {ts : List TypeId} {vs : List Value} {ds : List (DataW H)} {ps : List MemPlace},(ts.all fun t => P.readableRec t && decide (t < P.types.size)) = true → (∀ p ∈ ps,p.block < W.heap.size) → (∀ p ∈ ps,sp p.block = true) →
  DataW.TrodAll enc P W 0 (fun _ => true) true ts vs ds ps → DataW.TrodAll enc P W' 0 sp true ts vs ds ps := by
 intro ts
 induction ts with
 | nil =>
   intro vs ds ps _ _ _ h;obtain ⟨rfl,rfl,rfl⟩ := trodAll_nil h;exact trodAll_mk0
 | cons t ts ih =>
   intro vs ds ps hr hlt hs h;obtain ⟨v,vs',d,ds',p,q,rfl,rfl,rfl,h1,h2⟩ := trodAll_cons h;simp only [List.all_cons,Bool.and_eq_true,decide_eq_true_eq] at hr;refine trodAll_cons_mk (WideElems.Trod_stays hl hr.1.1 hr.1.2 h1 (fun x hx => hb.same (hlt x (by simp [hx]))) (fun x hx => hs x (by simp [hx]))) (ih ?_ (fun x hx => hlt x (by simp [hx])) (fun x hx => hs x (by simp [hx])) h2)
   simpa using hr.2
theorem law_post {H : Type} {enc : TypeId × Value → H} {P : Program} {f : Func} {s : ChangeSpec} {apart fresh handsOn again : Bool} {W W' : World} {args : Array Value} {ds gs : List (DataW H)} {before : List MemPlace} {tb : TypeId}
 (hl : laidOutB P = true) (hr : (f.params.toList.all fun t => P.readableRec t && decide (t < P.types.size)) = true) (hrt : f.resultTypes = #[tb]) (htb : P.underlying tb = some .bool) (hvars : s.vars = [])
 (hs : s.fn H (ds ++ gs) = { results := [.lit (.bool true)],args := ds })
 (hW : DataW.Whole enc P f.params.toList s.vars apart W args.toList ds gs before) (hb : Below W.heap.size W W') : s.post enc P f apart fresh handsOn again W args (.bool true) W' := by
 have hlt : ∀ p ∈ before,p.block < W.heap.size := fun p hp => hW.lt p hp
 have hW2 := hW;obtain ⟨p,q,hA,hV,rfl,hz,hn⟩ := hW2;rw [hvars] at hV;obtain ⟨rfl,rfl⟩ := trodVars_none hV;have hA : DataW.TrodAll enc P W 0 (fun _ => true) true f.params.toList args.toList ds p := hA
 simp only [List.append_nil] at hW hlt hs hz hn;have hargs : ∀ sp : Nat → Bool,(∀ x ∈ p,sp x.block = true) → DataW.TrodAll enc P W' 0 sp true f.params.toList args.toList ds p := fun sp hsp => trodAll_kept hl hb hr hlt hsp hA
 have hres : ∀ (b : Nat) (sp : Nat → Bool) (hd : Bool),DataW.TrodAll enc P W' b sp hd f.resultTypes.toList ((Value.bool true).resultList f.resultTypes.size) [.lit (.bool true)] [] := by
  intro b sp hd
  rw [hrt]
  exact trodAll_mk1 (shut_bool htb true)
 have e1 : (s.fn H (ds ++ [])).results = [.lit (.bool true)] := by rw [List.append_nil,hs]
 have e2 : (s.fn H (ds ++ [])).args = ds := by rw [List.append_nil,hs]
 have e3 : (s.fn H (ds ++ [])).vars = [] := by rw [List.append_nil,hs]
 refine ⟨ds,[],p,[],p,[],hW,by rw [e1];exact hres _ _ _,by rw [e2];exact hargs _ (fun x hx => by simpa using hlt x hx),by rw [e3,hvars];exact rfl,World.keptBut_mono (fun x hx => ⟨hx,.inr (by simpa using hx)⟩) (hb.frame (· ∈ p)),fun _ => ?_⟩
 have h12 := trodAll_append (hargs (fun _ => true) (fun _ _ => rfl)) (hres 0 (fun _ => true) true)
 refine ⟨ok_one hrt rfl (okWide_bool_mk htb _),_,[],[] ++ p,⟨[] ++ p,[],h12,by rw [hvars];exact rfl,by simp,fun b off hp => ?_,fun ha => by simpa using hn ha⟩,fun x hx _ => by simpa using hx⟩
 have hp : MemPlace.cell b off ∈ p := by simpa using hp
 rw [hb.frozen (hlt _ hp)]
 exact hz b off hp
end Go.Proofs.YtcbjmcnebmhgpaaGreat
